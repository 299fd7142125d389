import Derived.Test.YtapiffkeclnbbaaProg
import Derived.Below
import Derived.Deep.Draws
import Derived.Deep.AppendLies
import Derived.Maps.AppendAt
import Derived.OwnWalk
import Derived.Laws.MakeOwn
import Derived.Laws.OwnMore
import Derived.Deep.OwnRows
import Derived.Tactics
import Derived.Laws.Slices
import Derived.WalkKit
import Derived.KernelRfl
import Derived.RowKit3
import Derived.Deep.LoopGhost
import Derived.Deep.QuietTactic
import Derived.BigQuiet
import Derived.WideLaws
import Derived.Deep.DeepCutAuto
import Derived.Deep.CutBlock
import Derived.Deep.RegionHeld3
import Derived.Deep.RegionWith
import Derived.Deep.RegionLaw
import Derived.Laws.Rows
import Derived.ArgAppend
import Derived.OrdersHeld
import Derived.Laws.BitsLemmas
import Derived.Laws.StructEq
import Derived.RowKit
import Derived.Lib.Hide
import Derived.Lib.SliceRun
import Derived.StillTail
import Derived.Test.YtapiffkeclnbbaaB0
import Derived.Test.YtapiffkeclnbbaaB5
/-! Rows that are owned: lists of structs as cells one behind the other; what a store of several cells leaves. -/
namespace Go.Proofs.Ytapiffkeclnbbaa.B0
open Go.RowKit
section
variable {α : Type} {enc : α → List Value} {sz : Nat}
theorem flat_len (hE : ∀ x, (enc x).length = sz) : ∀ xs : List α, (xs.flatMap enc).length = xs.length * sz
  | [] => by simp
  | x :: r => by
    have h := flat_len hE r
    rw [List.flatMap_cons, List.length_append, h, hE, List.length_cons, Nat.succ_mul, Nat.add_comm]
theorem flat_take (hE : ∀ x, (enc x).length = sz) : ∀ (xs : List α) (k : Nat), (xs.flatMap enc).take (k * sz) = (xs.take k).flatMap enc
  | [], k => by simp
  | x :: r, 0 => by simp
  | x :: r, k + 1 => by
    have h := flat_take hE r k
    have h0 := hE x
    have e : (k + 1) * sz = (enc x).length + k * sz := by rw [Nat.succ_mul, h0, Nat.add_comm]
    rw [List.flatMap_cons, e, List.take_append, List.take_of_length_le (by omega), List.take_succ_cons, List.flatMap_cons, ← h]
    congr 2
    omega
theorem flat_drop (hE : ∀ x, (enc x).length = sz) : ∀ (xs : List α) (k : Nat), (xs.flatMap enc).drop (k * sz) = (xs.drop k).flatMap enc
  | [], k => by simp
  | x :: r, 0 => by simp
  | x :: r, k + 1 => by
    have h := flat_drop hE r k
    have h0 := hE x
    have e : (k + 1) * sz = (enc x).length + k * sz := by rw [Nat.succ_mul, h0, Nat.add_comm]
    rw [List.flatMap_cons, e, List.drop_append, List.drop_of_length_le (by omega), List.drop_succ_cons, ← h]
    simp
theorem flat_get (hE : ∀ x, (enc x).length = sz) (xs : List α) (i : Nat) (hi : i < xs.length) (j : Nat) (hj : j < sz) : (xs.flatMap enc)[i * sz + j]? = (enc xs[i])[j]? := by
  have e : (xs.flatMap enc)[i * sz + j]? = ((xs.flatMap enc).drop (i * sz))[j]? := by rw [List.getElem?_drop]
  rw [e, flat_drop hE, List.drop_eq_getElem_cons hi, List.flatMap_cons, List.getElem?_append_left (by rw [hE]; exact hj)]
theorem flat_set (hE : ∀ x, (enc x).length = sz) (xs : List α) (k : Nat) (y : α) (hk : k < xs.length) : ((xs.set k y).flatMap enc) = (xs.flatMap enc).take (k * sz) ++ enc y ++ (xs.flatMap enc).drop ((k + 1) * sz) := by
  rw [flat_take hE, flat_drop hE, List.set_eq_take_append_cons_drop, if_pos hk, List.flatMap_append, List.flatMap_cons, List.append_assoc]
end

/-- cells with vs laid from o on -/
def putL (cs : Array Value) : Nat → List Value → Array Value
  | _, [] => cs
  | o, v :: r => putL (cs.setIfInBounds o v) (o + 1) r
theorem putL_size : ∀ (vs : List Value) (o : Nat) (cs : Array Value), (putL cs o vs).size = cs.size
  | [], _, _ => rfl
  | v :: r, o, cs => by rw [putL, putL_size r]; simp
theorem putL_list : ∀ (vs : List Value) (o : Nat) (cs : Array Value), o + vs.length ≤ cs.size → (putL cs o vs).toList = cs.toList.take o ++ vs ++ cs.toList.drop (o + vs.length)
  | [], o, cs, _ => by simp [putL]
  | v :: r, o, cs, h => by
    simp only [List.length_cons] at h
    rw [putL, putL_list r (o + 1) _ (by simp; omega), Array.toList_setIfInBounds, List.set_eq_take_append_cons_drop, if_pos (by simp; omega)]
    have hl : (cs.toList.take o).length = o := by simp; omega
    have e1 : (cs.toList.take o ++ v :: cs.toList.drop (o + 1)).take (o + 1) = cs.toList.take o ++ [v] := by
      rw [List.take_append, hl, List.take_of_length_le (by omega), show o + 1 - o = 1 by omega]
      rfl
    have e2 : (cs.toList.take o ++ v :: cs.toList.drop (o + 1)).drop (o + 1 + r.length) = cs.toList.drop (o + (r.length + 1)) := by
      rw [List.drop_append, hl, List.drop_of_length_le (by omega), show o + 1 + r.length - o = r.length + 1 by omega, List.drop_succ_cons, List.drop_drop, List.nil_append]
      congr 1
      omega
    rw [e1, e2]
    simp
theorem Blk.puts {g : Nat} {t : TypeId} : ∀ (vs : List Value) (o : Nat) {w : World} {cs : Array Value}, Blk w g t cs → Blk (w.setCells g o vs) g t (putL cs o vs)
  | [], _, _, _, h => h
  | v :: r, o, _, _, h => Blk.puts r (o + 1) (h.put o v rfl)
theorem below_puts {B g : Nat} {a : World} (hb : B ≤ g) : ∀ (vs : List Value) (o : Nat) {w : World}, Below B a w → Below B a (w.setCells g o vs)
  | [], _, _, h => h
  | v :: r, o, _, h => below_puts hb r (o + 1) (h.setCell hb v)

section
variable {α : Type} {enc : α → List Value} {sz : Nat}
/-- what is owned can be read -/
theorem Rd.of_own (hE : ∀ x, (enc x).length = sz) {W : World} {base : Nat} {t : TypeId} {v : Value} {n : Nat} {xs : List α} (h : W.ownsRow base t sz v n (xs.flatMap enc)) (hn : n = xs.length) :
    ∃ A cap, v = .slice A n cap ∧ n ≤ cap ∧ cap ≤ maxLen ∧ Rd W W.heap.size sz enc A xs := by
  rcases h.2 with ⟨hv, h0⟩ | ⟨g, cap, cur, hv, hb, hg, hnc, hcm, hs, hx⟩
  · subst h0
    have hx : xs = [] := List.length_eq_zero_iff.1 hn.symm
    exact ⟨none, 0, hv, Nat.le_refl _, by simp [maxLen], .inl hx⟩
  · refine ⟨_, cap, hv, hnc, hcm, .inr ⟨g, 0, rfl, (Array.getElem?_eq_some_iff.1 hg).1, fun i hi j u hu => ?_⟩⟩
    have hj : j < sz := by
      have := (List.getElem?_eq_some_iff.1 hu).1
      rwa [hE] at this
    have e := flat_get hE xs i hi j hj
    rw [hu, ← hx, List.getElem?_take] at e
    rw [cell_of_row W g _ cur t (0, 0) hg, Nat.zero_add]
    split at e
    · rw [Array.getElem?_toList] at e
      exact e
    · cases e
theorem own_ne {W : World} {base : Nat} {t : TypeId} {n : Nat} {v : Value} {cs : List Value} (h : W.ownsRow base t sz v n cs) : ∀ k, v.ownBlock = some k → base ≤ k := by
  intro k hk
  rcases h.2 with ⟨hv, _⟩ | ⟨g, cap, cur, hv, hb, _⟩
  · subst hv; cases hk
  · subst hv
    simp only [Value.ownBlock, Option.some.injEq] at hk
    omega
theorem own_base {W : World} {base base' : Nat} {t : TypeId} {n : Nat} {v : Value} {cs : List Value} (h : W.ownsRow base t sz v n cs) (hb : base' ≤ base) : W.ownsRow base' t sz v n cs := by
  refine ⟨h.1, ?_⟩
  rcases h.2 with hv | ⟨g, cap, cur, hv, hg, hrest⟩
  · exact .inl hv
  · exact .inr ⟨g, cap, cur, hv, by omega, hrest⟩
/-- what is owned stays so as long as its block is as it was -/
theorem own_keep {W W' : World} {base : Nat} {t : TypeId} {n : Nat} {v : Value} {cs : List Value} (h : W.ownsRow base t sz v n cs) (hk : ∀ k, k < W.heap.size → W'.heap[k]? = W.heap[k]?) : W'.ownsRow base t sz v n cs := by
  refine ⟨h.1, ?_⟩
  rcases h.2 with hv | ⟨g, cap, cur, hv, hg, hb, hrest⟩
  · exact .inl hv
  · exact .inr ⟨g, cap, cur, hv, hg, (hk g (Array.getElem?_eq_some_iff.1 hb).1).trans hb, hrest⟩
theorem own_call {W W' : World} {base : Nat} {t : TypeId} {n : Nat} {v : Value} {cs : List Value} (h : W.ownsRow base t sz v n cs) (hb : Below W.heap.size W W') : W'.ownsRow base t sz v n cs := own_keep h hb.block
/-- the cells of a row that reads as xs, as append asks for them -/
theorem Rd.cells (hE : ∀ x, (enc x).length = sz) {W : World} {B : Nat} {ad : Addr} {xs : List α} (h : Rd W B sz enc (some ad) xs) : ∀ j u, (xs.flatMap enc)[j]? = some u → W.cell? (ad.add j) = some u := by
  intro j u hu
  rcases h with h | ⟨b, off, e, hb, hc⟩
  · subst h; simp at hu
  · injection e with e
    subst e
    have hj := (List.getElem?_eq_some_iff.1 hu).1
    rw [flat_len hE] at hj
    have hs : 0 < sz := by
      rcases Nat.eq_zero_or_pos sz with h | h
      · subst h; simp at hj
      · exact h
    have hi : j / sz < xs.length := (Nat.div_lt_iff_lt_mul hs).2 hj
    have hm : j % sz < sz := Nat.mod_lt _ hs
    have e := flat_get hE xs (j / sz) hi (j % sz) hm
    rw [show j / sz * sz + j % sz = j from Nat.div_add_mod' j sz, hu] at e
    have := hc (j / sz) hi (j % sz) u e.symm
    rw [Addr.add_lit]
    rw [show off + j / sz * sz + j % sz = off + j by rw [Nat.add_assoc, Nat.div_add_mod']] at this
    exact this
end
end Go.Proofs.Ytapiffkeclnbbaa.B0
