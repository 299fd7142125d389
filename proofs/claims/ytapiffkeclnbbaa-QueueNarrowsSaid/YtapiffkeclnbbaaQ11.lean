import Derived.Test.YtapiffkeclnbbaaProg
import Derived.Below
import Derived.Deep.Draws
import Derived.Deep.AppendLies
import Derived.Maps.AppendAt
import Derived.OwnWalk
import Derived.Laws.MakeOwn
import Derived.Laws.OwnMore
import Derived.Deep.OwnRows
import Derived.Tactics
import Derived.Laws.Slices
import Derived.WalkKit
import Derived.KernelRfl
import Derived.RowKit3
import Derived.Deep.LoopGhost
import Derived.Deep.QuietTactic
import Derived.BigQuiet
import Derived.WideLaws
import Derived.Deep.DeepCutAuto
import Derived.Deep.CutBlock
import Derived.Deep.RegionHeld3
import Derived.Deep.RegionWith
import Derived.Deep.RegionLaw
import Derived.Laws.Rows
import Derived.ArgAppend
import Derived.OrdersHeld
import Derived.Laws.BitsLemmas
import Derived.Laws.StructEq
import Derived.RowKit
import Derived.Lib.Hide
import Derived.Lib.SliceRun
import Derived.StillTail
import Derived.Test.YtapiffkeclnbbaaB0
import Derived.Test.YtapiffkeclnbbaaB1
import Derived.Test.YtapiffkeclnbbaaB2
import Derived.Test.YtapiffkeclnbbaaB3
import Derived.Test.YtapiffkeclnbbaaB4
import Derived.Test.YtapiffkeclnbbaaB5
import Derived.Test.YtapiffkeclnbbaaB6
import Derived.Test.YtapiffkeclnbbaaB7
import Derived.Test.YtapiffkeclnbbaaB8
import Derived.Test.YtapiffkeclnbbaaA1
import Derived.Test.YtapiffkeclnbbaaA2
import Derived.Test.YtapiffkeclnbbaaA3
import Derived.Test.YtapiffkeclnbbaaA4
import Derived.Test.YtapiffkeclnbbaaA5
import Derived.Test.YtapiffkeclnbbaaA6
import Derived.Test.YtapiffkeclnbbaaQ1
import Derived.Test.YtapiffkeclnbbaaQ2
import Derived.Test.YtapiffkeclnbbaaQ3
import Derived.Test.YtapiffkeclnbbaaQ4
import Derived.Test.YtapiffkeclnbbaaQ5
import Derived.Test.YtapiffkeclnbbaaQ6
import Derived.Test.YtapiffkeclnbbaaQ7
import Derived.Test.YtapiffkeclnbbaaQ8
import Derived.Test.YtapiffkeclnbbaaQ9
import Derived.Test.YtapiffkeclnbbaaQ10
/-! queue.Narrow. -/
set_option linter.unusedVariables false
set_option linter.unusedSimpArgs false
namespace Go.Proofs.Ytapiffkeclnbbaa.Q
open Go.RowKit Go.Proofs.Ytapiffkeclnbbaa.B0 Go.Proofs.Ytapiffkeclnbbaa.A2
attribute [local irreducible] wpHq
/-- does a prefix overlap an entry's block? -/
def ovE (p : PrefV) (e : EntryV) : Bool := covP p e.x.p || covP e.x.p p
/-- an entry behind an update -/
def narE (p : PrefV) (e : EntryV) : EntryV := if ovE p e = true then ⟨e.a, ⟨whoP e.a, e.x.hop⟩, true⟩ else e
def mapTo {α : Type} (f : α → α) (xs : List α) (k : Nat) : List α := (xs.take k).map f ++ xs.drop k
theorem mapTo_len {α : Type} (f : α → α) (xs : List α) (k : Nat) : (mapTo f xs k).length = xs.length := by simp [mapTo]; omega
theorem mapTo_zero {α : Type} (f : α → α) (xs : List α) : mapTo f xs 0 = xs := by simp [mapTo]
theorem mapTo_all {α : Type} (f : α → α) (xs : List α) : mapTo f xs xs.length = xs.map f := by simp [mapTo]
theorem mapTo_get {α : Type} (f : α → α) (xs : List α) (k : Nat) : (mapTo f xs k)[k]? = xs[k]? := by
  unfold mapTo
  by_cases h : k ≤ xs.length
  · rw [List.getElem?_append_right (by simp; omega)]
    simp [List.getElem?_drop, Nat.min_eq_left h]
  · rw [List.getElem?_eq_none (by simp; omega), List.getElem?_eq_none (by omega)]
theorem mapTo_succ {α : Type} (f : α → α) (xs : List α) (k : Nat) (e : α) (h : xs[k]? = some e) : mapTo f xs (k + 1) = (mapTo f xs k).set k (f e) := by
  have hk := (List.getElem?_eq_some_iff.1 h).1
  have he := (List.getElem?_eq_some_iff.1 h).2
  unfold mapTo
  rw [List.set_append_right _ _ (by simp; omega), List.take_add_one, h]
  have e1 : xs.drop k = e :: xs.drop (k + 1) := by rw [List.drop_eq_getElem_cons hk, he]
  rw [e1]
  simp [Nat.min_eq_left (Nat.le_of_lt hk)]
theorem mapTo_same {α : Type} (f : α → α) (xs : List α) (k : Nat) (e : α) (h : xs[k]? = some e) (hf : f e = e) : mapTo f xs (k + 1) = mapTo f xs k := by
  rw [mapTo_succ f xs k e h, hf]
  apply List.ext_getElem?
  intro i
  rw [List.getElem?_set]
  split
  · rename_i hi
    subst hi
    rw [mapTo_len, mapTo_get, h]
    have hk := (List.getElem?_eq_some_iff.1 h).1
    simp [hk]
  · rfl
/-- the cells of a row, five of an element's nine stored anew -/
theorem row_set (cur : Array Value) (cap n k : Nat) (xs : List EntryV) (e y : EntryV) (a b c d f : Value) (hs : cur.size = cap * 9) (hnc : n ≤ cap) (hx : cur.toList.take (n * 9) = xs.flatMap encE) (hn : xs.length = n) (hk : xs[k]? = some e)
    (hy : encE y = [.int .u64 e.a.h, .int .u64 e.a.l, .bool e.a.v, a, b, c, d, .int .i64 e.x.hop, f]) :
    (((((cur.setIfInBounds (k * 9 + 3) a).setIfInBounds (k * 9 + 4) b).setIfInBounds (k * 9 + 5) c).setIfInBounds (k * 9 + 6) d).setIfInBounds (k * 9 + 8) f).toList.take (n * 9) = (xs.set k y).flatMap encE := by
  have hkn : k < xs.length := (List.getElem?_eq_some_iff.1 hk).1
  have hke : xs[k] = e := (List.getElem?_eq_some_iff.1 hk).2
  apply List.ext_getElem?
  intro j
  by_cases hj : j < n * 9
  · rw [List.getElem?_take, if_pos hj, Array.getElem?_toList]
    have hcur : cur[j]? = (xs.flatMap encE)[j]? := by rw [← hx, List.getElem?_take, if_pos hj, Array.getElem?_toList]
    have hi : j / 9 < xs.length := by omega
    have hr : j % 9 < 9 := by omega
    have ej : j / 9 * 9 + j % 9 = j := by omega
    have g1 := flat_get encE_len xs (j / 9) hi (j % 9) hr
    have g2 := flat_get encE_len (xs.set k y) (j / 9) (by simpa using hi) (j % 9) hr
    rw [ej] at g1 g2
    rw [g2, List.getElem_set]
    by_cases hki : k = j / 9
    · subst hki
      rw [if_pos rfl, hy]
      rw [g1, hke] at hcur
      have h9 : j % 9 = 0 ∨ j % 9 = 1 ∨ j % 9 = 2 ∨ j % 9 = 3 ∨ j % 9 = 4 ∨ j % 9 = 5 ∨ j % 9 = 6 ∨ j % 9 = 7 ∨ j % 9 = 8 := by omega
      simp only [Array.getElem?_setIfInBounds, Array.size_setIfInBounds]
      rcases h9 with h | h | h | h | h | h | h | h | h <;> rw [h] at hcur ⊢
      · rw [if_neg (by omega), if_neg (by omega), if_neg (by omega), if_neg (by omega), if_neg (by omega), hcur]; rfl
      · rw [if_neg (by omega), if_neg (by omega), if_neg (by omega), if_neg (by omega), if_neg (by omega), hcur]; rfl
      · rw [if_neg (by omega), if_neg (by omega), if_neg (by omega), if_neg (by omega), if_neg (by omega), hcur]; rfl
      · rw [if_neg (by omega), if_neg (by omega), if_neg (by omega), if_neg (by omega), if_pos (by omega), if_pos (by omega)]; rfl
      · rw [if_neg (by omega), if_neg (by omega), if_neg (by omega), if_pos (by omega), if_pos (by omega)]; rfl
      · rw [if_neg (by omega), if_neg (by omega), if_pos (by omega), if_pos (by omega)]; rfl
      · rw [if_neg (by omega), if_pos (by omega), if_pos (by omega)]; rfl
      · rw [if_neg (by omega), if_neg (by omega), if_neg (by omega), if_neg (by omega), if_neg (by omega), hcur]; rfl
      · rw [if_pos (by omega), if_pos (by omega)]; rfl
    · rw [if_neg hki]
      simp only [Array.getElem?_setIfInBounds, Array.size_setIfInBounds]
      rw [if_neg (by omega), if_neg (by omega), if_neg (by omega), if_neg (by omega), if_neg (by omega), hcur, g1]
  · rw [List.getElem?_eq_none (by simp; omega), List.getElem?_eq_none (by rw [flat_len encE_len]; simp; omega)]
set_option maxHeartbeats 1000000 in
set_option maxRecDepth 100000 in
theorem queue_Narrow_insane (v : Value) (xs : List EntryV) (bd : Int) (p : PrefV) (w : World) (hq : IsQ w v xs bd) (hlen : xs.length ≤ 1024) (hs : saneQ xs bd = false) :
    Calls Try.prog 24 #[v, .agg #[.int .u64 p.a.h, .int .u64 p.a.l, .bool p.a.v, .int .i64 p.n]] w fun e w' => e = .returned (.tuple #[.agg #[.slice none 0 0, .int .i64 0], .int .i64 0]) ∧ Kept w w' := by
  obtain ⟨A, cap, rfl, hc, hr, hty⟩ := hq
  have hu := Try.underlying26
  have hu2 := Try.underlying34
  have hu3 := Try.underlying36
  have hu4 := Try.underlying48
  have hu5 := Try.underlying38
  have hq : IsQ w (.agg #[.slice A xs.length cap, .int .i64 bd]) xs bd := ⟨A, cap, rfl, hc, hr, hty⟩
  go_enter Try.func24, Try.ntmps24
  go_wp2_with fail
  obtain ⟨W, hW⟩ : ∃ W, ((w.alloc (.cells #[.slice A xs.length cap, .int .i64 bd] 26)).alloc (.cells #[.int .u64 p.a.h, .int .u64 p.a.l, .bool p.a.v, .int .i64 p.n] 36)).alloc (.cells #[.slice none 0 0, .int .i64 0] 26) = W := ⟨_, rfl⟩
  have B0 : Blk W w.heap.size 26 #[.slice A xs.length cap, .int .i64 bd] := hW ▸ ((Blk.new _ _ _).alloc _).alloc _
  have B1 : Blk W (w.heap.size + 1) 36 #[.int .u64 p.a.h, .int .u64 p.a.l, .bool p.a.v, .int .i64 p.n] := hW ▸ (Blk.new2 _ _ _ _).alloc _
  have B2 : Blk W (w.heap.size + 1 + 1) 26 #[.slice none 0 0, .int .i64 0] := hW ▸ Blk.new3 _ _ _ _ _
  have hK : Kept w W := hW ▸ (((Kept.refl w).alloc _).alloc _).alloc _
  rw [hW]
  clear hW
  refine (queue_Sane_is _ _ _ _ (hq.below (Nat.le_refl _) hK.out) hlen hs).mono ?_
  rintro e w1 ⟨rfl, hb1⟩
  have B0 := B0.call hb1.out
  have B1 := B1.call hb1.out
  have B2 := B2.call hb1.out
  have hK := hK.call hb1.out
  clear hb1
  go_wp2_with fail
  refine (queue_New0 _).mono ?_
  rintro e w2 ⟨rfl, hb2⟩
  have B0 := B0.call hb2.out
  have B1 := B1.call hb2.out
  have B2 := B2.call hb2.out
  have hK := hK.call hb2.out
  clear hb2
  obtain ⟨c0, f0⟩ := B0.facts
  obtain ⟨c1, f1⟩ := B1.facts
  obtain ⟨c2, f2⟩ := B2.facts
  have z0 := B0.lt
  have z1 := B1.lt
  have z2 := B2.lt
  go_wp2_with fail
  exact ret_blk_tmp rfl rfl ((B2.put 0 _ rfl).put 1 _ rfl) hu rfl (by kernel_rfl) rfl ⟨rfl, ((hK.set (by omega)).set (by omega))⟩
theorem prefix_Covers_is {b : Bool} (p q : PrefV) (w : World) (h : covP p q = b) : Calls Try.prog 44 #[.agg #[.int .u64 p.a.h, .int .u64 p.a.l, .bool p.a.v, .int .i64 p.n], .agg #[.int .u64 q.a.h, .int .u64 q.a.l, .bool q.a.v, .int .i64 q.n]] w fun e w' => e = .returned (.bool b) ∧ Kept w w' := h ▸ prefix_Covers p q w
def cntE (p : PrefV) (xs : List EntryV) (k : Nat) : Nat := ((xs.take k).filter (ovE p)).length
theorem cntE_succ (p : PrefV) (xs : List EntryV) (k : Nat) (e : EntryV) (h : xs[k]? = some e) : cntE p xs (k + 1) = cntE p xs k + (if ovE p e = true then 1 else 0) := by
  unfold cntE
  rw [List.take_add_one, h]
  simp only [Option.toList_some, List.filter_append, List.length_append]
  by_cases ho : ovE p e = true <;> simp [ho]
theorem cntE_le (p : PrefV) (xs : List EntryV) (k : Nat) : cntE p xs k ≤ k := by
  unfold cntE
  exact Nat.le_trans (List.length_filter_le _ _) (by simp; omega)
set_option maxHeartbeats 1000000 in
set_option maxRecDepth 100000 in
theorem queue_Narrow_sane (v : Value) (xs : List EntryV) (bd : Int) (p : PrefV) (w : World) (hq : IsQ w v xs bd) (hlen : xs.length ≤ 1024) (hs : saneQ xs bd = true) :
    Calls Try.prog 24 #[v, .agg #[.int .u64 p.a.h, .int .u64 p.a.l, .bool p.a.v, .int .i64 p.n]] w fun e w' => (∃ v', e = .returned (.tuple #[v', .int .i64 (cntE p xs xs.length)]) ∧ IsQ w' v' (xs.map (narE p)) bd) ∧ Kept w w' := by
  obtain ⟨A, cap, rfl, hc, hr, hty⟩ := hq
  have hu := Try.underlying26
  have hu2 := Try.underlying34
  have hu3 := Try.underlying36
  have hu4 := Try.underlying48
  have hu5 := Try.underlying38
  have hq : IsQ w (.agg #[.slice A xs.length cap, .int .i64 bd]) xs bd := ⟨A, cap, rfl, hc, hr, hty⟩
  go_enter Try.func24, Try.ntmps24
  go_wp2_with fail
  obtain ⟨W, hW⟩ : ∃ W, ((w.alloc (.cells #[.slice A xs.length cap, .int .i64 bd] 26)).alloc (.cells #[.int .u64 p.a.h, .int .u64 p.a.l, .bool p.a.v, .int .i64 p.n] 36)).alloc (.cells #[.slice none 0 0, .int .i64 0] 26) = W := ⟨_, rfl⟩
  have B0 : Blk W w.heap.size 26 #[.slice A xs.length cap, .int .i64 bd] := hW ▸ ((Blk.new _ _ _).alloc _).alloc _
  have B1 : Blk W (w.heap.size + 1) 36 #[.int .u64 p.a.h, .int .u64 p.a.l, .bool p.a.v, .int .i64 p.n] := hW ▸ (Blk.new2 _ _ _ _).alloc _
  have B2 : Blk W (w.heap.size + 1 + 1) 26 #[.slice none 0 0, .int .i64 0] := hW ▸ Blk.new3 _ _ _ _ _
  have hK : Kept w W := hW ▸ (((Kept.refl w).alloc _).alloc _).alloc _
  rw [hW]
  clear hW
  refine (queue_Sane_is _ _ _ _ (hq.below (Nat.le_refl _) hK.out) hlen hs).mono ?_
  rintro e w1 ⟨rfl, hb1⟩
  have B0 := B0.call hb1.out
  have B1 := B1.call hb1.out
  have B2 := B2.call hb1.out
  have hK := hK.call hb1.out
  clear hb1
  obtain ⟨c0, f0⟩ := B0.facts
  obtain ⟨c1, f1⟩ := B1.facts
  obtain ⟨c2, f2⟩ := B2.facts
  have z0 := B0.lt
  have z1 := B1.lt
  have z2 := B2.lt
  have hr1 := (hr.below hK.out).more hK.size
  go_wp2_with fail
  refine (slices_Clone A xs.length cap xs _ hr1 rfl hlen).mono ?_
  rintro e w2 ⟨v1, rfl, hown, hb2⟩
  clear c0 f0 z0 c1 f1 z1 c2 f2 z2
  have hy := B2.lt
  have B0 := B0.call hb2.out
  have B1 := B1.call hb2.out
  have B2 := B2.call hb2.out
  have hK := hK.call hb2.out
  clear hb2
  obtain ⟨A1, cap1, rfl, hc1, hcm1, _⟩ := Rd.of_own encE_len hown rfl
  have Hown := Lib.hid hown
  clear hown
  go_wp2_with fail
  go_loopw [6, 19] (fun ct i wr => ∃ k : Nat, k ≤ xs.length ∧ i = .int .i64 k ∧ ct = .int .i64 (cntE p xs k) ∧ wr.ownsRow w1.heap.size 48 9 (.slice A1 xs.length cap1) xs.length ((mapTo (narE p) xs k).flatMap encE) ∧ Blk wr w.heap.size 26 #[.slice A xs.length cap, .int .i64 bd] ∧ Blk wr (w.heap.size + 1) 36 #[.int .u64 p.a.h, .int .u64 p.a.l, .bool p.a.v, .int .i64 p.n] ∧ Blk wr (w.heap.size + 1 + 1) 26 #[.slice none 0 0, .int .i64 0] ∧ Kept w wr)
    (fun ct i _ => xs.length - (intOf i).toNat)
  case atStart => exact ⟨0, Nat.zero_le _, rfl, rfl, by rw [mapTo_zero]; exact Hown.out, B0, B1, B2, hK⟩
  case round =>
    obtain ⟨k, hk, rfl, rfl, ho, B0, B1, B2, hK⟩ := hrel
    by_cases hlt : k < xs.length
    · rcases ho.2 with ⟨hv, h0⟩ | ⟨g, cap2, cur, hv, hgb, hg, hnc, hcm, hsz, hx⟩
      · omega
      injection hv with hv1 _ hv2
      subst hv1 hv2
      have BG : Blk wr g 48 cur := hg
      clear hg ho
      obtain ⟨e, he⟩ : ∃ e, xs[k] = e := ⟨_, rfl⟩
      have Hx : Hid (xs[k]? = some e) := Lib.hid (by rw [List.getElem?_eq_getElem hlt, he])
      have hmk : (mapTo (narE p) xs k)[k]? = some e := by rw [mapTo_get]; exact Hx.out
      have hq : ∀ j, j < 9 → cur[k * 9 + j]? = (encE e)[j]? := by
        intro j hj
        have h1 := flat_get encE_len (mapTo (narE p) xs k) k (by rw [mapTo_len]; exact hlt) j hj
        rw [(List.getElem?_eq_some_iff.1 hmk).2, ← hx, List.getElem?_take, if_pos (by omega), Array.getElem?_toList] at h1
        exact h1
      have q0 := hq 0 (by omega)
      rw [Nat.add_zero] at q0
      have q1 := hq 1 (by omega)
      have q2 := hq 2 (by omega)
      have q3 := hq 3 (by omega)
      have q4 := hq 4 (by omega)
      have q5 := hq 5 (by omega)
      have q6 := hq 6 (by omega)
      have q7 := hq 7 (by omega)
      have q8 := hq 8 (by omega)
      simp only [encE, List.getElem?_cons_zero, List.getElem?_cons_succ] at q0 q1 q2 q3 q4 q5 q6 q7 q8
      have Hxx := Lib.hid hx
      have Hsz := Lib.hid hsz
      clear hq he hx hsz hmk
      have hk0 : (0 : Int) ≤ (k : Int) := by omega
      have hkl : (k : Int) < (xs.length : Int) := by omega
      obtain ⟨c0, f0⟩ := B0.facts
      obtain ⟨c1, f1⟩ := B1.facts
      obtain ⟨cg, fg⟩ := BG.facts
      go_wp2_with fail
      clear c0 f0 c1 f1 cg fg
      have hS : Steady (fun W' => Blk W' w.heap.size 26 #[.slice A xs.length cap, .int .i64 bd] ∧ Blk W' (w.heap.size + 1) 36 #[.int .u64 p.a.h, .int .u64 p.a.l, .bool p.a.v, .int .i64 p.n] ∧ Blk W' (w.heap.size + 1 + 1) 26 #[.slice none 0 0, .int .i64 0] ∧ Blk W' g 48 cur ∧ Kept w W') := fun w1 w2 h hb => ⟨h.1.call hb, h.2.1.call hb, h.2.2.1.call hb, h.2.2.2.1.call hb, h.2.2.2.2.call hb⟩
      refine wp_region_h 15 [(0, 0), (1, 0), (2, 0), (3, 0), (4, 0), (5, 0), (6, 0), (7, 0), (8, 0), (9, 0), (10, 0), (11, 0), (12, 0), (13, 0), (14, 0)] [] 0 (fun W' => Blk W' w.heap.size 26 #[.slice A xs.length cap, .int .i64 bd] ∧ Blk W' (w.heap.size + 1) 36 #[.int .u64 p.a.h, .int .u64 p.a.l, .bool p.a.v, .int .i64 p.n] ∧ Blk W' (w.heap.size + 1 + 1) 26 #[.slice none 0 0, .int .i64 0] ∧ Blk W' g 48 cur ∧ Kept w W') (by kernel_rfl) (by kernel_rfl) hS (fun _ _ => Nat.zero_le _) ⟨B0.drew, B1.drew, B2.drew, BG.drew, hK.drew⟩ ?_
      simp only [List.map_cons, List.map_nil, List.getElem?_toArray, List.getElem?_cons_succ, List.getElem?_cons_zero]
      clear B0 B1 B2 BG hK
      cases h1 : covP p e.x.p with
      | true =>
        have Ho : Hid (ovE p e = true) := Lib.hid (by simp [ovE, h1])
        have H1 := Lib.hid h1
        clear h1
        repeat (first
          | (apply h_val; rfl; (intro W hC; obtain ⟨b0, b1, b2, b3, hk⟩ := hC; have k1 := b1.cell; have k3 := b3.cell; clear b0 b1 b2 b3 hk; go_simp; rfl); go_simp)
          | (refine h_off rfl ?_; go_simp)
          | (apply h_call (f := 44); rfl; (intro W hC; go_simp; rfl); (intro W hC; (with_reducible refine (prefix_Covers_is p e.x.p _ H1.out).mono ?_); rintro e w1 ⟨rfl, hb1⟩; exact ⟨rfl, hb1.out⟩); go_simp))
        refine h_end fun W5 hC => ?_
        obtain ⟨B0, B1, B2, BG, hK⟩ := hC
        obtain ⟨cg, fg⟩ := BG.facts
        go_wp2_with fail
        refine (queue_whole e.a _).mono ?_
        rintro e' w6 ⟨rfl, hb6⟩
        clear cg fg
        have B0 := B0.call hb6.out
        have B1 := B1.call hb6.out
        have B2 := B2.call hb6.out
        have BG := BG.call hb6.out
        have hK := hK.call hb6.out
        clear hb6
        obtain ⟨cg, fg⟩ := BG.facts
        have hcn : IntKind.i64.wrap ((cntE p xs k : Int) + 1) = (cntE p xs k : Int) + 1 := by have := cntE_le p xs k; simp [IntKind.wrap, IntKind.bits, IntKind.signed]; omega
        go_wp2_with fail
        have hne : narE p e = ⟨e.a, ⟨whoP e.a, e.x.hop⟩, true⟩ := by rw [narE, Ho.out, if_pos rfl]
        have hrow := row_set cur cap1 xs.length k (mapTo (narE p) xs k) e (narE p e) (.int .u64 (whoP e.a).a.h) (.int .u64 (whoP e.a).a.l) (.bool (whoP e.a).a.v) (.int .i64 (whoP e.a).n) (.bool true) Hsz.out hnc Hxx.out (mapTo_len _ _ _) (by rw [mapTo_get]; exact Hx.out) (by rw [hne]; rfl)
        rw [← mapTo_succ _ _ _ e Hx.out] at hrow
        have hl9 : ((mapTo (narE p) xs (k + 1)).flatMap encE).length = xs.length * 9 := by rw [flat_len encE_len, mapTo_len]
        have x0 := B0.lt
        have x1 := B1.lt
        refine ⟨⟨k + 1, by omega, by simp, by rw [cntE_succ p xs k e Hx.out, Ho.out, if_pos rfl]; simp, ?_, ?_, ?_, ?_, ?_⟩, by simp [intOf]; omega⟩
        · refine ⟨hl9, .inr ⟨g, cap1, (((((cur.setIfInBounds (k * 9 + 3) (.int .u64 (whoP e.a).a.h)).setIfInBounds (k * 9 + 4) (.int .u64 (whoP e.a).a.l)).setIfInBounds (k * 9 + 5) (.bool (whoP e.a).a.v)).setIfInBounds (k * 9 + 6) (.int .i64 (whoP e.a).n)).setIfInBounds (k * 9 + 8) (.bool true)), rfl, hgb, ?_, hnc, hcm, by simp [Hsz.out], hrow⟩⟩
          exact (((((BG.put (k * 9 + 3) (.int .u64 (whoP e.a).a.h) rfl).put (k * 9 + 4) (.int .u64 (whoP e.a).a.l) rfl).put (k * 9 + 5) (.bool (whoP e.a).a.v) rfl).put (k * 9 + 6) (.int .i64 (whoP e.a).n) rfl).put (k * 9 + 8) (.bool true) rfl).out
        · exact (((((B0.off (by omega) _).off (by omega) _).off (by omega) _).off (by omega) _).off (by omega) _)
        · exact (((((B1.off (by omega) _).off (by omega) _).off (by omega) _).off (by omega) _).off (by omega) _)
        · exact (((((B2.off (by omega) _).off (by omega) _).off (by omega) _).off (by omega) _).off (by omega) _)
        · exact (((((hK.set (by omega)).set (by omega)).set (by omega)).set (by omega)).set (by omega))
      | false =>
        cases h2 : covP e.x.p p with
        | true =>
          have Ho : Hid (ovE p e = true) := Lib.hid (by simp [ovE, h1, h2])
          have H1 := Lib.hid h1
          clear h1
          have H2 := Lib.hid h2
          clear h2
          repeat (first
            | (apply h_val; rfl; (intro W hC; obtain ⟨b0, b1, b2, b3, hk⟩ := hC; have k1 := b1.cell; have k3 := b3.cell; clear b0 b1 b2 b3 hk; go_simp; rfl); go_simp)
            | (refine h_off rfl ?_; go_simp)
            | (apply h_call (f := 44); rfl; (intro W hC; go_simp; rfl); (intro W hC; (with_reducible refine (prefix_Covers_is p e.x.p _ H1.out).mono ?_); rintro e w1 ⟨rfl, hb1⟩; exact ⟨rfl, hb1.out⟩); go_simp)
            | (apply h_call (f := 44); rfl; (intro W hC; go_simp; rfl); (intro W hC; (with_reducible refine (prefix_Covers_is e.x.p p _ H2.out).mono ?_); rintro e w1 ⟨rfl, hb1⟩; exact ⟨rfl, hb1.out⟩); go_simp))
          refine h_end fun W5 hC => ?_
          obtain ⟨B0, B1, B2, BG, hK⟩ := hC
          obtain ⟨cg, fg⟩ := BG.facts
          go_wp2_with fail
          refine (queue_whole e.a _).mono ?_
          rintro e' w6 ⟨rfl, hb6⟩
          clear cg fg
          have B0 := B0.call hb6.out
          have B1 := B1.call hb6.out
          have B2 := B2.call hb6.out
          have BG := BG.call hb6.out
          have hK := hK.call hb6.out
          clear hb6
          obtain ⟨cg, fg⟩ := BG.facts
          have hcn : IntKind.i64.wrap ((cntE p xs k : Int) + 1) = (cntE p xs k : Int) + 1 := by have := cntE_le p xs k; simp [IntKind.wrap, IntKind.bits, IntKind.signed]; omega
          go_wp2_with fail
          have hne : narE p e = ⟨e.a, ⟨whoP e.a, e.x.hop⟩, true⟩ := by rw [narE, Ho.out, if_pos rfl]
          have hrow := row_set cur cap1 xs.length k (mapTo (narE p) xs k) e (narE p e) (.int .u64 (whoP e.a).a.h) (.int .u64 (whoP e.a).a.l) (.bool (whoP e.a).a.v) (.int .i64 (whoP e.a).n) (.bool true) Hsz.out hnc Hxx.out (mapTo_len _ _ _) (by rw [mapTo_get]; exact Hx.out) (by rw [hne]; rfl)
          rw [← mapTo_succ _ _ _ e Hx.out] at hrow
          have hl9 : ((mapTo (narE p) xs (k + 1)).flatMap encE).length = xs.length * 9 := by rw [flat_len encE_len, mapTo_len]
          have x0 := B0.lt
          have x1 := B1.lt
          refine ⟨⟨k + 1, by omega, by simp, by rw [cntE_succ p xs k e Hx.out, Ho.out, if_pos rfl]; simp, ?_, ?_, ?_, ?_, ?_⟩, by simp [intOf]; omega⟩
          · refine ⟨hl9, .inr ⟨g, cap1, (((((cur.setIfInBounds (k * 9 + 3) (.int .u64 (whoP e.a).a.h)).setIfInBounds (k * 9 + 4) (.int .u64 (whoP e.a).a.l)).setIfInBounds (k * 9 + 5) (.bool (whoP e.a).a.v)).setIfInBounds (k * 9 + 6) (.int .i64 (whoP e.a).n)).setIfInBounds (k * 9 + 8) (.bool true)), rfl, hgb, ?_, hnc, hcm, by simp [Hsz.out], hrow⟩⟩
            exact (((((BG.put (k * 9 + 3) (.int .u64 (whoP e.a).a.h) rfl).put (k * 9 + 4) (.int .u64 (whoP e.a).a.l) rfl).put (k * 9 + 5) (.bool (whoP e.a).a.v) rfl).put (k * 9 + 6) (.int .i64 (whoP e.a).n) rfl).put (k * 9 + 8) (.bool true) rfl).out
          · exact (((((B0.off (by omega) _).off (by omega) _).off (by omega) _).off (by omega) _).off (by omega) _)
          · exact (((((B1.off (by omega) _).off (by omega) _).off (by omega) _).off (by omega) _).off (by omega) _)
          · exact (((((B2.off (by omega) _).off (by omega) _).off (by omega) _).off (by omega) _).off (by omega) _)
          · exact (((((hK.set (by omega)).set (by omega)).set (by omega)).set (by omega)).set (by omega))
        | false =>
          have Ho : Hid (ovE p e = false) := Lib.hid (by simp [ovE, h1, h2])
          have H1 := Lib.hid h1
          clear h1
          have H2 := Lib.hid h2
          clear h2
          repeat (first
            | (apply h_val; rfl; (intro W hC; obtain ⟨b0, b1, b2, b3, hk⟩ := hC; have k1 := b1.cell; have k3 := b3.cell; clear b0 b1 b2 b3 hk; go_simp; rfl); go_simp)
            | (refine h_off rfl ?_; go_simp)
            | (apply h_call (f := 44); rfl; (intro W hC; go_simp; rfl); (intro W hC; (with_reducible refine (prefix_Covers_is p e.x.p _ H1.out).mono ?_); rintro e w1 ⟨rfl, hb1⟩; exact ⟨rfl, hb1.out⟩); go_simp)
            | (apply h_call (f := 44); rfl; (intro W hC; go_simp; rfl); (intro W hC; (with_reducible refine (prefix_Covers_is e.x.p p _ H2.out).mono ?_); rintro e w1 ⟨rfl, hb1⟩; exact ⟨rfl, hb1.out⟩); go_simp))
          refine h_end fun W5 hC => ?_
          obtain ⟨B0, B1, B2, BG, hK⟩ := hC
          obtain ⟨cg, fg⟩ := BG.facts
          go_wp2_with fail
          have hne : narE p e = e := by rw [narE, Ho.out, if_neg (by simp)]
          refine ⟨⟨k + 1, by omega, by simp, by rw [cntE_succ p xs k e Hx.out, Ho.out, if_neg (by simp)]; simp, ⟨by rw [flat_len encE_len, mapTo_len], .inr ⟨g, cap1, cur, rfl, hgb, BG.out, hnc, hcm, Hsz.out, by rw [mapTo_same _ _ _ e Hx.out hne]; exact Hxx.out⟩⟩, B0, B1, B2, hK⟩, by simp [intOf]; omega⟩
    · have hk2 : k = xs.length := by omega
      have ho2 : wr.ownsRow w1.heap.size 48 9 (.slice A1 xs.length cap1) (xs.map (narE p)).length ((xs.map (narE p)).flatMap encE) := by
        rw [hk2, mapTo_all] at ho
        rw [List.length_map]
        exact ho
      clear ho
      have x2 := B2.lt
      have hkk := Lib.hid hk2
      have d9 : decide ((k : Int) < (xs.length : Int)) = false := decide_eq_false (by omega)
      obtain ⟨c0, f0⟩ := B0.facts
      obtain ⟨c2, f2⟩ := B2.facts
      clear hk2
      have Ho2 := Lib.hid ho2
      clear ho2
      go_wp2_with fail
      refine ret_blk_tmp (t := 26) (cs := #[.slice A1 xs.length cap1, .int .i64 bd]) rfl rfl ?_ hu rfl (by kernel_rfl) rfl ⟨⟨_, by rw [show cntE p xs xs.length = cntE p xs k by rw [← hkk.out]]; rfl, IsQ.own (base := w1.heap.size) (n := (xs.map (narE p)).length) ?_ rfl⟩, ?_⟩
      · have h := ((B2.put 0 (.slice A1 xs.length cap1) rfl).put 1 (.int .i64 bd) rfl)
        exact h.cast (by simp)
      · exact (own_set (own_set Ho2.out (by omega) _) (by omega) _)
      · exact ((hK.set (by omega)).set (by omega))
end Go.Proofs.Ytapiffkeclnbbaa.Q
