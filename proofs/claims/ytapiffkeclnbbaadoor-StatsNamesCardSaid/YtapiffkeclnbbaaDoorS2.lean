import Derived.Test.YtapiffkeclnbbaaDoorProg
import Derived.Below
import Derived.Deep.Draws
import Derived.Deep.AppendLies
import Derived.Maps.AppendAt
import Derived.OwnWalk
import Derived.Laws.MakeOwn
import Derived.Laws.OwnMore
import Derived.Deep.OwnRows
import Derived.Tactics
import Derived.Laws.Slices
import Derived.WalkKit
import Derived.KernelRfl
import Derived.RowKit3
import Derived.Deep.LoopGhost
import Derived.Deep.QuietTactic
import Derived.BigQuiet
import Derived.WideLaws
import Derived.Deep.DeepCutAuto
import Derived.Deep.CutBlock
import Derived.Deep.RegionHeld3
import Derived.Deep.RegionWith
import Derived.Deep.RegionLaw
import Derived.Laws.Rows
import Derived.ArgAppend
import Derived.OrdersHeld
import Derived.Laws.BitsLemmas
import Derived.Laws.StructEq
import Derived.RowKit
import Derived.Lib.Hide
import Derived.Lib.SliceRun
import Derived.StillTail
import Derived.Test.YtapiffkeclnbbaaDoorB0
import Derived.Test.YtapiffkeclnbbaaDoorB1
import Derived.Test.YtapiffkeclnbbaaDoorB2
import Derived.Test.YtapiffkeclnbbaaDoorB3
import Derived.Test.YtapiffkeclnbbaaDoorB4
import Derived.Test.YtapiffkeclnbbaaDoorS1
/-! stats.Get, kedgeref15.Get. -/
set_option linter.unusedVariables false
set_option linter.unusedSimpArgs false
namespace Go.Proofs.YtapiffkeclnbbaaDoor.S
open Go.RowKit Go.Proofs.YtapiffkeclnbbaaDoor.B0
/-- counts as cells -/
def vC (c : List Int) : Array Value := (c.map (Value.int .u64)).toArray
def okC (c : List Int) : Prop := c.length = 17 ∧ ∀ x ∈ c, okU x
theorem vC_size (c : List Int) : (vC c).size = c.length := by simp [vC]
theorem vC_get (c : List Int) (i : Nat) (h : i < c.length) : (vC c)[i]? = some (.int .u64 (c[i]?.getD 0)) := by simp [vC, h]
theorem vC_set (c : List Int) (i : Nat) (x : Int) : (vC c).setIfInBounds i (.int .u64 x) = vC (c.set i x) := by
  unfold vC
  rw [List.map_set, List.setIfInBounds_toArray]
theorem vC_one (c : List Int) : (vC c).all (·.oneCell') = true := by
  rw [Array.all_eq_true_iff_forall_mem]
  intro v hv
  simp only [vC, List.mem_toArray, List.mem_map] at hv
  obtain ⟨x, _, rfl⟩ := hv
  rfl
theorem okC_get {c : List Int} (h : okC c) (i : Nat) : okU (c[i]?.getD 0) := by
  by_cases hi : i < c.length
  · simpa [hi] using h.2 _ (List.getElem_mem hi)
  · simp [List.getElem?_eq_none (Nat.le_of_not_lt hi), okU]
theorem okC_set {c : List Int} (h : okC c) (i : Nat) {x : Int} (hx : okU x) : okC (c.set i x) :=
  ⟨by simp [h.1], fun y hy => by
    rcases List.mem_or_eq_of_mem_set hy with h' | h'
    · exact h.2 _ h'
    · exact h' ▸ hx⟩
def getC (c : List Int) (k : Int) : Int := if isK k = true then c[k.toNat]?.getD 0 else 0
def bumpC (c : List Int) (k n : Int) : List Int := if isK k = true ∧ 0 < n then c.set k.toNat (addV (c[k.toNat]?.getD 0) n) else c
theorem okC_getC {c : List Int} (h : okC c) (k : Int) : okU (getC c k) := by
  unfold getC
  split
  · exact okC_get h _
  · simp [okU]
set_option maxHeartbeats 400000 in
set_option maxRecDepth 100000 in
theorem stats_Get (c : List Int) (k : Int) (hc : okC c) (w : World) : Calls Tryd.prog 11 #[.agg (vC c), .int .i64 k] w fun e w' => e = .returned (.int .u64 (getC c k)) ∧ Kept w w' := by
  have hu := Tryd.underlying28
  have hu2 := Tryd.underlying26
  cases hk : isK k with
  | false =>
    have he : getC c k = 0 := by simp [getC, hk]
    rw [he]
    clear he
    go_enter Tryd.func11, Tryd.ntmps11
    go_wp2_with fail
    refine (stats_is _ _).mono ?_
    rintro e w1 ⟨rfl, rfl⟩
    rw [hk]
    go_wp2_with fail
    go_ret
    exact ⟨rfl, (Kept.refl _).alloc _⟩
  | true =>
    have hd : 0 ≤ k ∧ k < 17 := by simpa [isK] using hk
    have he : getC c k = c[k.toNat]?.getD 0 := by simp [getC, hk]
    have hg := vC_get c k.toNat (by have := hc.1; omega)
    rw [he]
    obtain ⟨x, hx⟩ : ∃ x, c[k.toNat]?.getD 0 = x := ⟨_, rfl⟩
    rw [hx] at hg ⊢
    obtain ⟨h0, h1⟩ := hd
    clear he hx hc
    go_enter Tryd.func11, Tryd.ntmps11
    go_wp2_with fail
    refine (stats_is _ _).mono ?_
    rintro e w1 ⟨rfl, rfl⟩
    rw [hk]
    go_wp2_with fail
    go_ret
    exact ⟨rfl, (Kept.refl _).alloc _⟩
end Go.Proofs.YtapiffkeclnbbaaDoor.S
