import Derived.Test.YtapiffkeclnbbaaProg
import Derived.Below
import Derived.Deep.Draws
import Derived.Deep.AppendLies
import Derived.Maps.AppendAt
import Derived.OwnWalk
import Derived.Laws.MakeOwn
import Derived.Laws.OwnMore
import Derived.Deep.OwnRows
import Derived.Tactics
import Derived.Laws.Slices
import Derived.WalkKit
import Derived.KernelRfl
import Derived.RowKit3
import Derived.Deep.LoopGhost
import Derived.Deep.QuietTactic
import Derived.BigQuiet
import Derived.WideLaws
import Derived.Deep.DeepCutAuto
import Derived.Deep.CutBlock
import Derived.Deep.RegionHeld3
import Derived.Deep.RegionWith
import Derived.Deep.RegionLaw
import Derived.Laws.Rows
import Derived.ArgAppend
import Derived.OrdersHeld
import Derived.Laws.BitsLemmas
import Derived.Laws.StructEq
import Derived.RowKit
import Derived.Lib.Hide
import Derived.Lib.SliceRun
import Derived.StillTail
import Derived.Test.YtapiffkeclnbbaaB0
/-! Slices that read as lists: whatever the elements' cells are. -/
namespace Go.Proofs.Ytapiffkeclnbbaa.B0
open Go.RowKit
/-- The slice's cells lie below block B and are xs', sz cells an element. -/
def Rd {α : Type} (W : World) (B sz : Nat) (enc : α → List Value) (A : Option Addr) (xs : List α) : Prop :=
  xs = [] ∨ ∃ b off, A = some ⟨b, off, none⟩ ∧ b < B ∧ ∀ i (hi : i < xs.length) j u, (enc xs[i])[j]? = some u → W.cell? ⟨b, off + i * sz + j, none⟩ = some u
section
variable {α : Type} {W W' : World} {B B' sz : Nat} {enc : α → List Value} {A : Option Addr} {xs : List α}
theorem Rd.nil : Rd W B sz enc A [] := .inl rfl
theorem Rd.keep (h : Rd W B sz enc A xs) (hk : ∀ p : Addr, p.block < B → W'.cell? p = W.cell? p) : Rd W' B sz enc A xs := by
  rcases h with h | ⟨b, off, e, hb, hc⟩
  · exact .inl h
  · exact .inr ⟨b, off, e, hb, fun i hi j u hu => (hk _ hb).trans (hc i hi j u hu)⟩
theorem Rd.more (h : Rd W B sz enc A xs) (hB : B ≤ B') : Rd W B' sz enc A xs := by
  rcases h with h | ⟨b, off, e, hb, hc⟩
  · exact .inl h
  · exact .inr ⟨b, off, e, by omega, hc⟩
theorem Rd.below (h : Rd W B sz enc A xs) (hb : Below B W W') : Rd W' B sz enc A xs := h.keep fun _ hp => hb.cell hp
theorem Rd.drew (h : Rd W B sz enc A xs) : Rd W.drew B sz enc A xs := h
theorem Rd.call (h : Rd W B sz enc A xs) (hB : B ≤ W.heap.size) (hb : Below W.heap.size W W') : Rd W' B sz enc A xs := h.below (hb.mono hB)
theorem Rd.alloc (h : Rd W B sz enc A xs) (hB : B ≤ W.heap.size) (o : Obj) : Rd (W.alloc o) B sz enc A xs := h.keep fun p hp => World.cell?_alloc_lt _ o p (by omega)
theorem Rd.set {p : Addr} (h : Rd W B sz enc A xs) (hB : B ≤ p.block) (u : Value) : Rd (W.setCell p u) B sz enc A xs :=
  h.keep fun q hq => World.cell?_setCell_other W p q u (fun e => by subst e; omega)
theorem Rd.get (h : Rd W B sz enc A xs) {i : Nat} (hi : i < xs.length) : ∃ b off, A = some ⟨b, off, none⟩ ∧ b < B ∧ ∀ j u, (enc xs[i])[j]? = some u → W.cell? ⟨b, off + i * sz + j, none⟩ = some u := by
  rcases h with h | ⟨b, off, e, hb, hc⟩
  · subst h; simp at hi
  · exact ⟨b, off, e, hb, hc i hi⟩
theorem Rd.take (h : Rd W B sz enc A xs) (k : Nat) : Rd W B sz enc A (xs.take k) := by
  rcases h with h | ⟨b, off, e, hb, hc⟩
  · subst h; exact .inl (by simp)
  · refine .inr ⟨b, off, e, hb, fun i hi j u hu => ?_⟩
    have hi' : i < xs.length := by simp at hi; omega
    refine hc i hi' j u ?_
    rw [List.getElem_take] at hu
    exact hu
end
end Go.Proofs.Ytapiffkeclnbbaa.B0
