import Derived.Test.YtapiffkeclnbbaaDoorProg
import Derived.Below
import Derived.Deep.Draws
import Derived.Deep.AppendLies
import Derived.Maps.AppendAt
import Derived.OwnWalk
import Derived.Laws.MakeOwn
import Derived.Laws.OwnMore
import Derived.Deep.OwnRows
import Derived.Tactics
import Derived.Laws.Slices
import Derived.WalkKit
import Derived.KernelRfl
import Derived.RowKit3
import Derived.Deep.LoopGhost
import Derived.Deep.QuietTactic
import Derived.BigQuiet
import Derived.WideLaws
import Derived.Deep.DeepCutAuto
import Derived.Deep.CutBlock
import Derived.Deep.RegionHeld3
import Derived.Deep.RegionWith
import Derived.Deep.RegionLaw
import Derived.Laws.Rows
import Derived.ArgAppend
import Derived.OrdersHeld
import Derived.Laws.BitsLemmas
import Derived.Laws.StructEq
import Derived.RowKit
import Derived.Lib.Hide
import Derived.Lib.SliceRun
import Derived.StillTail
import Derived.Laws.CopyOwn
import Derived.Test.YtapiffkeclnbbaaDoorB0
import Derived.Test.YtapiffkeclnbbaaDoorB1
import Derived.Test.YtapiffkeclnbbaaDoorB2
import Derived.Test.YtapiffkeclnbbaaDoorB3
import Derived.Test.YtapiffkeclnbbaaDoorB4
import Derived.Test.YtapiffkeclnbbaaDoorB5
import Derived.Test.YtapiffkeclnbbaaDoorB7
import Derived.Test.YtapiffkeclnbbaaDoorB8
import Derived.Test.YtapiffkeclnbbaaDoorS1
import Derived.Test.YtapiffkeclnbbaaDoorS2
import Derived.Test.YtapiffkeclnbbaaDoorS3
import Derived.Test.YtapiffkeclnbbaaDoorS4
import Derived.Test.YtapiffkeclnbbaaDoorS5
import Derived.Test.YtapiffkeclnbbaaDoorS6
import Derived.Test.YtapiffkeclnbbaaDoorS7
import Derived.Test.YtapiffkeclnbbaaDoorS8
import Derived.Test.YtapiffkeclnbbaaDoorT1
import Derived.Test.YtapiffkeclnbbaaDoorS9
import Derived.Test.YtapiffkeclnbbaaDoorS11
/-! kedgelaw15.StatsNames. -/
set_option linter.unusedVariables false
set_option linter.unusedSimpArgs false
namespace Go.Proofs.YtapiffkeclnbbaaDoor.S
open Go.RowKit Go.Proofs.YtapiffkeclnbbaaDoor.B0
attribute [local irreducible] wpQuiet wpHq
theorem h_new {P : Program} {ops : Array Oper} {als : List Nat} {N : Nat} {C A : World → Prop} {T : Act → World → Prop} {rest : List (Option Oper × Nat)} {o : Oper} {a : Act} {m : Nat → Value} {z : Array Value} {t : TypeId}
    (hw : Region.wanted o (yielded ops a.tmps) = true) (hm : AllocAt P o a m z t) (hA : Steady A) (hC : Steady C) (hAC : ∀ w, A w → C w)
    (h : ∀ g, wpHq P ops als N T (fun w => C w ∧ Blk w g t z) (fun w => A w ∧ Blk w g t z) rest (a.put o.dst (m g))) : wpHq P ops als N T C A ((some o, 3) :: rest) a := by
  refine h_alone hw fun w hwA => ?_
  unfold Oper.wp
  rw [hm w]
  simp only [Oper.upon]
  exact ⟨fun w' => C w' ∧ Blk w' w.heap.size t z, fun w' => A w' ∧ Blk w' w.heap.size t z, hC.blk _ _ _, hA.blk _ _ _, fun _ h => h.1, fun _ h => ⟨hAC _ h.1, h.2⟩, ⟨hA _ _ hwA ((Below.refl _ _).alloc (Nat.le_refl _) _), Blk.new _ _ _⟩, h _⟩
theorem addV_zero {x : Int} (h : okU x) : addV 0 x = x := by unfold okU at h; unfold addV; split <;> omega
theorem addV_ge {x y : Int} (hx : okU x) (hy : okU y) : y ≤ addV x y := by unfold okU at *; unfold addV; split <;> omega
theorem sum1 {c : List Int} (h : okC c) (a : Int) : sumC c [a] = getC c a := addV_zero (okC_getC h a)
theorem sum2 {c : List Int} (h : okC c) (a b : Int) : getC c b ≤ sumC c [a, b] := by
  show getC c b ≤ addV (addV 0 (getC c a)) (getC c b)
  rw [addV_zero (okC_getC h a)]
  exact addV_ge (okC_getC h a) (okC_getC h b)
theorem nm_nodup : ∀ i j : Fin 17, nm[i.1]?.getD ⟨#[]⟩ = nm[j.1]?.getD ⟨#[]⟩ → i = j := by decide +kernel
theorem nm_full : ∀ i : Fin 17, nm[i.1]?.getD ⟨#[]⟩ ≠ ⟨#[]⟩ := by decide +kernel
theorem name_eq {a b : Int} (ha : isK a = true) : nameC a = nameC b ↔ a = b := by
  have h1 : 0 ≤ a ∧ a < 17 := by simpa [isK] using ha
  constructor
  · intro h
    cases hb : isK b with
    | true =>
      have h2 : 0 ≤ b ∧ b < 17 := by simpa [isK] using hb
      unfold nameC at h
      rw [if_pos ha, if_pos hb] at h
      have := nm_nodup ⟨a.toNat, by omega⟩ ⟨b.toNat, by omega⟩ h
      have := congrArg Fin.val this
      simp only at this
      omega
    | false =>
      unfold nameC at h
      rw [if_pos ha, if_neg (by simp [hb])] at h
      exact absurd h (nm_full ⟨a.toNat, by omega⟩)
  · intro h; rw [h]
theorem name_full {a : Int} (ha : isK a = true) : nameC a ≠ ⟨#[]⟩ := by
  have h1 : 0 ≤ a ∧ a < 17 := by simpa [isK] using ha
  unfold nameC
  rw [if_pos ha]
  exact nm_full ⟨a.toNat, by omega⟩
theorem name_none {a : Int} (ha : isK a = false) : nameC a = ⟨#[]⟩ := by unfold nameC; rw [if_neg (by simp [ha])]
theorem ri_one {W : World} {g : Nat} {l : List Int} (h : Blk W g 3 (l.map (Value.int .i64)).toArray) : Ri W W.heap.size .i64 (some ⟨g, 0, none⟩) l :=
  .inr ⟨g, 0, rfl, h.lt, fun i x hx => by rw [h.cell]; simp [hx]⟩
theorem str_empty {s : ByteArray} (h : s ≠ ⟨#[]⟩) : s.toList.isEmpty = false := by
  cases he : s.toList.isEmpty
  · rfl
  · exfalso
    refine h ?_
    have h1 : s.toList = [] := List.isEmpty_iff.1 he
    have h2 : s.data.toList = [] := by rw [← h1]; exact (ByteArray.toList_eq s).symm
    cases s with
    | mk d => congr 1; exact Array.toList_eq_nil_iff.1 h2
theorem isK_parts (a : Int) : isK a = (decide (0 ≤ a) && decide (a < 17)) := rfl
set_option maxHeartbeats 4000000 in
set_option maxRecDepth 100000 in
theorem law_StatsNames_long (A0 : Option Addr) (n0 cap0 : Nat) (a b : Int) (w : World) (hsp : Sp w) (h0 : 100 < n0) : Calls Tryd.prog 7 #[.slice A0 n0 cap0, .int .i64 a, .int .i64 b] w fun e w' => e = .returned (.bool true) ∧ Kept w w' := by
  have d0 : decide ((100 : Int) < (n0 : Int)) = true := decide_eq_true (by omega)
  go_enter Tryd.func7, Tryd.ntmps7
  go_wp2_with fail
  refine (law_awake w hsp).mono ?_
  rintro e w1 ⟨rfl, hk1⟩
  go_wp2_with fail
  go_ret
  exact ⟨rfl, hk1⟩
set_option maxHeartbeats 4000000 in
set_option maxRecDepth 100000 in
theorem law_StatsNames_in (A0 : Option Addr) (n0 cap0 : Nat) (xs : List Int) (hn0 : xs.length = n0) (hx : ∀ x ∈ xs, okU x) (a b : Int) (w : World) (hsp : Sp w) (h0 : n0 ≤ 100) (hin : isK a = true)
    (hr0 : Ri w w.heap.size .u64 A0 xs) : Calls Tryd.prog 7 #[.slice A0 n0 cap0, .int .i64 a, .int .i64 b] w fun e w' => e = .returned (.bool true) ∧ Kept w w' := by
  have hu := Tryd.underlying28
  have Hn0 := Lib.hid hn0
  have d0 : decide ((100 : Int) < (n0 : Int)) = false := decide_eq_false (by omega)
  have hab : 0 ≤ a ∧ a < 17 := by simpa [isK] using hin
  obtain ⟨ha0, ha1⟩ := hab
  have Hin := Lib.hid hin
  have Hsp := Lib.hid hsp
  clear hn0 hin
  go_enter Tryd.func7, Tryd.ntmps7
  go_wp2_with fail
  refine (law_awake w hsp).mono ?_
  rintro e w1 ⟨rfl, hk1⟩
  go_wp2_with fail
  refine (stats_New _ n0 cap0 xs Hn0.out _ (ri_up hr0 hk1)).mono ?_
  rintro e w2 ⟨rfl, hk2⟩
  have hK2 := hk1.call hk2.out
  clear hk2 hk1
  have hc0 := okC_new hx
  obtain ⟨c, hc0e⟩ : ∃ c, newC xs = c := ⟨_, rfl⟩
  rw [hc0e] at hc0 ⊢
  have Hc := Lib.hid hc0
  have Z0 := Lib.hid (size28 (sizeC hc0))
  have O0 := Lib.hid (vC_one c)
  have V0 := Lib.hid (sizeC hc0)
  have hs1 := sum1 hc0 a
  have hs2 := sum2 hc0 a b
  clear hc0 hc0e
  go_wp2_with (first
    | (refine wpList_store_blk 28 (.tmp 8) (.tmp 16) rfl rfl w2.heap.size (vC c) rfl rfl (Blk.new w2 28 z17) Z0.out (by rw [V0.out]; rfl) O0.out ?_; intro W2 BA hf1 hf2 hz2; have hKA := hf2 w (hK2.alloc _) hK2.size; clear hf1 hf2 hz2)
    | fail)
  obtain ⟨gs, hgs⟩ : ∃ gs, w2.heap.size = gs := ⟨_, rfl⟩
  rw [hgs] at BA ⊢
  obtain ⟨na, hna⟩ : ∃ na, nameC a = na := ⟨_, rfl⟩
  obtain ⟨nb, hnb⟩ : ∃ nb, nameC b = nb := ⟨_, rfl⟩
  have Hna := Lib.hid hna
  have Hnb := Lib.hid hnb
  have hfull := name_full Hin.out
  have heq := name_eq (b := b) Hin.out
  rw [hna] at hfull heq
  rw [hnb] at heq
  obtain ⟨ga, hga⟩ : ∃ ga, getC c a = ga := ⟨_, rfl⟩
  obtain ⟨gb, hgb⟩ : ∃ gb, getC c b = gb := ⟨_, rfl⟩
  obtain ⟨s2, hs2e⟩ : ∃ s2, sumC c [a, b] = s2 := ⟨_, rfl⟩
  rw [hga] at hs1
  rw [hgb, hs2e] at hs2
  have Hs1 := Lib.hid hs1
  have Hs2 := Lib.hid hs2e
  have Hga := Lib.hid hga
  have Hgb := Lib.hid hgb
  have Hs3 : Hid (sumC c [] = 0) := Lib.hid rfl
  have hemp := str_empty hfull
  obtain ⟨e, he1, he2⟩ : ∃ e : Bool, (na.toList == nb.toList) = e ∧ (a == b) = e := by
    refine ⟨_, ?_, rfl⟩
    by_cases hab : a = b
    · rw [heq.2 hab, hab, beq_self_eq_true, beq_self_eq_true]
    · rw [beq_eq_false_iff_ne.2 hab]
      refine beq_eq_false_iff_ne.2 fun h => hab (heq.1 ?_)
      rw [ByteArray.toList_eq, ByteArray.toList_eq] at h
      cases na; cases nb
      congr 1
      exact Array.toList_inj.1 h
  clear hna hnb hga hgb hs1 hs2e hgs hK2 hfull heq
  have hS : Steady (fun W' => Blk W' gs 28 (vC c) ∧ Kept w W') := fun w1 w2 h hb => ⟨h.1.call hb, h.2.call hb⟩
  refine wp_region_h 49 [(0, 0), (1, 0), (2, 0), (3, 0), (4, 0), (5, 0), (6, 0), (7, 0), (8, 0), (9, 0), (10, 0), (11, 0), (12, 0), (13, 0), (14, 0), (15, 0), (16, 0), (17, 0), (18, 0), (19, 0), (20, 0), (21, 0), (22, 0), (23, 0), (24, 0), (25, 0), (28, 0), (29, 0), (26, 3), (27, 0), (30, 0), (31, 0), (32, 0), (33, 0), (34, 0), (35, 0), (36, 0), (39, 0), (40, 0), (37, 3), (38, 0), (41, 0), (42, 0), (43, 0), (44, 0), (45, 0), (46, 0), (47, 0), (48, 0)] [] 0 (fun W' => Blk W' gs 28 (vC c) ∧ Kept w W') (by kernel_rfl) (by kernel_rfl) hS (fun _ _ => Nat.zero_le _) ⟨BA.out.drew, hKA.drew⟩ ?_
  simp only [List.map_cons, List.map_nil, List.getElem?_toArray, List.getElem?_cons_succ, List.getElem?_cons_zero]
  repeat (first
    | (apply h_val; rfl; (intro W hC; exact exec_load_row 28 (.tmp 8) rfl gs rfl hC.1 Tryd.underlying28 Z0.out); go_simp)
    | (apply h_val; rfl; (intro W hC; clear hC; go_simp; rfl); go_simp)
    | (refine h_off rfl ?_; go_simp)
    | (apply h_call (f := 17) (v := .string na); rfl; (intro W hC; go_simp; rfl); (intro W hC; (with_reducible refine (stats_Name a _ (Hsp.out.kept hC.2)).mono ?_); rintro e w1 ⟨rfl, hb1⟩; exact ⟨by rw [Hna.out], hb1.out⟩); go_simp)
    | (apply h_call (f := 17) (v := .string nb); rfl; (intro W hC; go_simp; rfl); (intro W hC; (with_reducible refine (stats_Name b _ (Hsp.out.kept hC.2)).mono ?_); rintro e w1 ⟨rfl, hb1⟩; exact ⟨by rw [Hnb.out], hb1.out⟩); go_simp))
  refine h_new (m := fun g => .slice (some ⟨g, 0, none⟩) 1 1) (z := #[.int .i64 a]) (t := 3) rfl (by intro w; go_simp) hS hS (fun _ h => h) ?_
  intro g1
  go_simp
  repeat (first
    | (apply h_val; rfl; (intro W hC; exact exec_load_row 28 (.tmp 8) rfl gs rfl hC.1.1 Tryd.underlying28 Z0.out); go_simp)
    | (apply h_val; rfl; (intro W hC; clear hC; go_simp; rfl); go_simp)
    | (refine h_off rfl ?_; go_simp)
    | (apply h_call (f := 15) (v := .int .u64 ga); rfl; (intro W hC; go_simp; rfl); (intro W hC; have r := ri_one (W := W) (g := g1) (l := [a]) hC.2; (with_reducible refine (stats_Sum c Hc.out (some ⟨g1, 0, none⟩) 1 1 [a] rfl (Nat.le_refl _) (by omega) _ r).mono ?_); rintro e w1 ⟨rfl, hb1⟩; exact ⟨by rw [Hs1.out], hb1.out⟩); go_simp)
    | (apply h_call (f := 11) (v := .int .u64 ga); rfl; (intro W hC; go_simp; rfl); (intro W hC; (with_reducible refine (stats_Get c a Hc.out _).mono ?_); rintro e w1 ⟨rfl, hb1⟩; exact ⟨by rw [Hga.out], hb1.out⟩); go_simp)
    | (apply h_call (f := 11) (v := .int .u64 gb); rfl; (intro W hC; go_simp; rfl); (intro W hC; (with_reducible refine (stats_Get c b Hc.out _).mono ?_); rintro e w1 ⟨rfl, hb1⟩; exact ⟨by rw [Hgb.out], hb1.out⟩); go_simp))
  refine h_new (m := fun g => .slice (some ⟨g, 0, none⟩) 2 2) (z := #[.int .i64 a, .int .i64 b]) (t := 3) rfl (by intro w; go_simp) (hS.blk _ _ _) (hS.blk _ _ _) (fun _ h => h) ?_
  intro g2
  go_simp
  repeat (first
    | (apply h_val; rfl; (intro W hC; exact exec_load_row 28 (.tmp 8) rfl gs rfl hC.1.1.1 Tryd.underlying28 Z0.out); go_simp)
    | (apply h_val; rfl; (intro W hC; clear hC; go_simp; rfl); go_simp)
    | (refine h_off rfl ?_; go_simp)
    | (apply h_call (f := 15) (v := .int .u64 s2); rfl; (intro W hC; go_simp; rfl); (intro W hC; have r := ri_one (W := W) (g := g2) (l := [a, b]) hC.2; (with_reducible refine (stats_Sum c Hc.out (some ⟨g2, 0, none⟩) 2 2 [a, b] rfl (Nat.le_refl _) (by omega) _ r).mono ?_); rintro e w1 ⟨rfl, hb1⟩; exact ⟨by rw [Hs2.out], hb1.out⟩); go_simp)
    | (apply h_call (f := 15) (v := .int .u64 0); rfl; (intro W hC; go_simp; rfl); (intro W hC; have r : Ri W W.heap.size .i64 none [] := .inl rfl; (with_reducible refine (stats_Sum c Hc.out none 0 0 [] rfl (Nat.le_refl _) (by omega) _ r).mono ?_); rintro e w1 ⟨rfl, hb1⟩; exact ⟨by rw [Hs3.out], hb1.out⟩); go_simp)
    | (apply h_call (f := 11) (v := .int .u64 ga); rfl; (intro W hC; go_simp; rfl); (intro W hC; (with_reducible refine (stats_Get c a Hc.out _).mono ?_); rintro e w1 ⟨rfl, hb1⟩; exact ⟨by rw [Hga.out], hb1.out⟩); go_simp)
    | (apply h_call (f := 11) (v := .int .u64 gb); rfl; (intro W hC; go_simp; rfl); (intro W hC; (with_reducible refine (stats_Get c b Hc.out _).mono ?_); rintro e w1 ⟨rfl, hb1⟩; exact ⟨by rw [Hgb.out], hb1.out⟩); go_simp))
  refine h_end fun W9 hC => ?_
  have hK9 := hC.1.1.2
  clear hC
  go_wp2_with fail
  go_ret
  exact ⟨rfl, hK9⟩
set_option maxHeartbeats 4000000 in
set_option maxRecDepth 100000 in
theorem law_StatsNames_lo (A0 : Option Addr) (n0 cap0 : Nat) (xs : List Int) (hn0 : xs.length = n0) (hx : ∀ x ∈ xs, okU x) (a b : Int) (w : World) (hsp : Sp w) (h0 : n0 ≤ 100) (hin : isK a = false) (hlo : a < 0)
    (hr0 : Ri w w.heap.size .u64 A0 xs) : Calls Tryd.prog 7 #[.slice A0 n0 cap0, .int .i64 a, .int .i64 b] w fun e w' => e = .returned (.bool true) ∧ Kept w w' := by
  have hu := Tryd.underlying28
  have Hn0 := Lib.hid hn0
  have d0 : decide ((100 : Int) < (n0 : Int)) = false := decide_eq_false (by omega)
  have Hin := Lib.hid hin
  have Hsp := Lib.hid hsp
  have ha0 : decide (0 ≤ a) = false := decide_eq_false (by omega)
  clear hlo
  clear hn0 hin
  go_enter Tryd.func7, Tryd.ntmps7
  go_wp2_with fail
  refine (law_awake w hsp).mono ?_
  rintro e w1 ⟨rfl, hk1⟩
  go_wp2_with fail
  refine (stats_New _ n0 cap0 xs Hn0.out _ (ri_up hr0 hk1)).mono ?_
  rintro e w2 ⟨rfl, hk2⟩
  have hK2 := hk1.call hk2.out
  clear hk2 hk1
  have hc0 := okC_new hx
  obtain ⟨c, hc0e⟩ : ∃ c, newC xs = c := ⟨_, rfl⟩
  rw [hc0e] at hc0 ⊢
  have Hc := Lib.hid hc0
  have Z0 := Lib.hid (size28 (sizeC hc0))
  have O0 := Lib.hid (vC_one c)
  have V0 := Lib.hid (sizeC hc0)
  have hs1 := sum1 hc0 a
  have hs2 := sum2 hc0 a b
  clear hc0 hc0e
  go_wp2_with (first
    | (refine wpList_store_blk 28 (.tmp 8) (.tmp 16) rfl rfl w2.heap.size (vC c) rfl rfl (Blk.new w2 28 z17) Z0.out (by rw [V0.out]; rfl) O0.out ?_; intro W2 BA hf1 hf2 hz2; have hKA := hf2 w (hK2.alloc _) hK2.size; clear hf1 hf2 hz2)
    | fail)
  obtain ⟨gs, hgs⟩ : ∃ gs, w2.heap.size = gs := ⟨_, rfl⟩
  rw [hgs] at BA ⊢
  obtain ⟨na, hna⟩ : ∃ na, nameC a = na := ⟨_, rfl⟩
  obtain ⟨nb, hnb⟩ : ∃ nb, nameC b = nb := ⟨_, rfl⟩
  have Hna := Lib.hid hna
  have Hnb := Lib.hid hnb
  have hnone := name_none Hin.out
  rw [hna] at hnone
  obtain ⟨ga, hga⟩ : ∃ ga, getC c a = ga := ⟨_, rfl⟩
  obtain ⟨gb, hgb⟩ : ∃ gb, getC c b = gb := ⟨_, rfl⟩
  obtain ⟨s2, hs2e⟩ : ∃ s2, sumC c [a, b] = s2 := ⟨_, rfl⟩
  rw [hga] at hs1
  rw [hgb, hs2e] at hs2
  have Hs1 := Lib.hid hs1
  have Hs2 := Lib.hid hs2e
  have Hga := Lib.hid hga
  have Hgb := Lib.hid hgb
  have Hs3 : Hid (sumC c [] = 0) := Lib.hid rfl
  have hemp : na.toList.isEmpty = true := by rw [hnone, ByteArray.toList_eq]; rfl
  clear hna hnb hga hgb hs1 hs2e hgs hK2 hnone
  have hS : Steady (fun W' => Blk W' gs 28 (vC c) ∧ Kept w W') := fun w1 w2 h hb => ⟨h.1.call hb, h.2.call hb⟩
  refine wp_region_h 49 [(0, 0), (1, 0), (2, 0), (3, 0), (4, 0), (5, 0), (6, 0), (7, 0), (8, 0), (9, 0), (10, 0), (11, 0), (12, 0), (13, 0), (14, 0), (15, 0), (16, 0), (17, 0), (18, 0), (19, 0), (20, 0), (21, 0), (22, 0), (23, 0), (24, 0), (25, 0), (28, 0), (29, 0), (26, 3), (27, 0), (30, 0), (31, 0), (32, 0), (33, 0), (34, 0), (35, 0), (36, 0), (39, 0), (40, 0), (37, 3), (38, 0), (41, 0), (42, 0), (43, 0), (44, 0), (45, 0), (46, 0), (47, 0), (48, 0)] [] 0 (fun W' => Blk W' gs 28 (vC c) ∧ Kept w W') (by kernel_rfl) (by kernel_rfl) hS (fun _ _ => Nat.zero_le _) ⟨BA.out.drew, hKA.drew⟩ ?_
  simp only [List.map_cons, List.map_nil, List.getElem?_toArray, List.getElem?_cons_succ, List.getElem?_cons_zero]
  repeat (first
    | (apply h_val; rfl; (intro W hC; exact exec_load_row 28 (.tmp 8) rfl gs rfl hC.1 Tryd.underlying28 Z0.out); go_simp)
    | (apply h_val; rfl; (intro W hC; clear hC; go_simp; rfl); go_simp)
    | (refine h_off rfl ?_; go_simp)
    | (apply h_call (f := 17) (v := .string na); rfl; (intro W hC; go_simp; rfl); (intro W hC; (with_reducible refine (stats_Name a _ (Hsp.out.kept hC.2)).mono ?_); rintro e w1 ⟨rfl, hb1⟩; exact ⟨by rw [Hna.out], hb1.out⟩); go_simp)
    | (apply h_call (f := 17) (v := .string nb); rfl; (intro W hC; go_simp; rfl); (intro W hC; (with_reducible refine (stats_Name b _ (Hsp.out.kept hC.2)).mono ?_); rintro e w1 ⟨rfl, hb1⟩; exact ⟨by rw [Hnb.out], hb1.out⟩); go_simp))
  refine h_new (m := fun g => .slice (some ⟨g, 0, none⟩) 1 1) (z := #[.int .i64 a]) (t := 3) rfl (by intro w; go_simp) hS hS (fun _ h => h) ?_
  intro g1
  go_simp
  repeat (first
    | (apply h_val; rfl; (intro W hC; exact exec_load_row 28 (.tmp 8) rfl gs rfl hC.1.1 Tryd.underlying28 Z0.out); go_simp)
    | (apply h_val; rfl; (intro W hC; clear hC; go_simp; rfl); go_simp)
    | (refine h_off rfl ?_; go_simp)
    | (apply h_call (f := 15) (v := .int .u64 ga); rfl; (intro W hC; go_simp; rfl); (intro W hC; have r := ri_one (W := W) (g := g1) (l := [a]) hC.2; (with_reducible refine (stats_Sum c Hc.out (some ⟨g1, 0, none⟩) 1 1 [a] rfl (Nat.le_refl _) (by omega) _ r).mono ?_); rintro e w1 ⟨rfl, hb1⟩; exact ⟨by rw [Hs1.out], hb1.out⟩); go_simp)
    | (apply h_call (f := 11) (v := .int .u64 ga); rfl; (intro W hC; go_simp; rfl); (intro W hC; (with_reducible refine (stats_Get c a Hc.out _).mono ?_); rintro e w1 ⟨rfl, hb1⟩; exact ⟨by rw [Hga.out], hb1.out⟩); go_simp)
    | (apply h_call (f := 11) (v := .int .u64 gb); rfl; (intro W hC; go_simp; rfl); (intro W hC; (with_reducible refine (stats_Get c b Hc.out _).mono ?_); rintro e w1 ⟨rfl, hb1⟩; exact ⟨by rw [Hgb.out], hb1.out⟩); go_simp))
  refine h_new (m := fun g => .slice (some ⟨g, 0, none⟩) 2 2) (z := #[.int .i64 a, .int .i64 b]) (t := 3) rfl (by intro w; go_simp) (hS.blk _ _ _) (hS.blk _ _ _) (fun _ h => h) ?_
  intro g2
  go_simp
  repeat (first
    | (apply h_val; rfl; (intro W hC; exact exec_load_row 28 (.tmp 8) rfl gs rfl hC.1.1.1 Tryd.underlying28 Z0.out); go_simp)
    | (apply h_val; rfl; (intro W hC; clear hC; go_simp; rfl); go_simp)
    | (refine h_off rfl ?_; go_simp)
    | (apply h_call (f := 15) (v := .int .u64 s2); rfl; (intro W hC; go_simp; rfl); (intro W hC; have r := ri_one (W := W) (g := g2) (l := [a, b]) hC.2; (with_reducible refine (stats_Sum c Hc.out (some ⟨g2, 0, none⟩) 2 2 [a, b] rfl (Nat.le_refl _) (by omega) _ r).mono ?_); rintro e w1 ⟨rfl, hb1⟩; exact ⟨by rw [Hs2.out], hb1.out⟩); go_simp)
    | (apply h_call (f := 15) (v := .int .u64 0); rfl; (intro W hC; go_simp; rfl); (intro W hC; have r : Ri W W.heap.size .i64 none [] := .inl rfl; (with_reducible refine (stats_Sum c Hc.out none 0 0 [] rfl (Nat.le_refl _) (by omega) _ r).mono ?_); rintro e w1 ⟨rfl, hb1⟩; exact ⟨by rw [Hs3.out], hb1.out⟩); go_simp)
    | (apply h_call (f := 11) (v := .int .u64 ga); rfl; (intro W hC; go_simp; rfl); (intro W hC; (with_reducible refine (stats_Get c a Hc.out _).mono ?_); rintro e w1 ⟨rfl, hb1⟩; exact ⟨by rw [Hga.out], hb1.out⟩); go_simp)
    | (apply h_call (f := 11) (v := .int .u64 gb); rfl; (intro W hC; go_simp; rfl); (intro W hC; (with_reducible refine (stats_Get c b Hc.out _).mono ?_); rintro e w1 ⟨rfl, hb1⟩; exact ⟨by rw [Hgb.out], hb1.out⟩); go_simp))
  refine h_end fun W9 hC => ?_
  have hK9 := hC.1.1.2
  clear hC
  go_wp2_with fail
  go_ret
  exact ⟨rfl, hK9⟩
set_option maxHeartbeats 4000000 in
set_option maxRecDepth 100000 in
theorem law_StatsNames_hi (A0 : Option Addr) (n0 cap0 : Nat) (xs : List Int) (hn0 : xs.length = n0) (hx : ∀ x ∈ xs, okU x) (a b : Int) (w : World) (hsp : Sp w) (h0 : n0 ≤ 100) (hin : isK a = false) (hlo : 0 ≤ a) (hhi : 17 ≤ a)
    (hr0 : Ri w w.heap.size .u64 A0 xs) : Calls Tryd.prog 7 #[.slice A0 n0 cap0, .int .i64 a, .int .i64 b] w fun e w' => e = .returned (.bool true) ∧ Kept w w' := by
  have hu := Tryd.underlying28
  have Hn0 := Lib.hid hn0
  have d0 : decide ((100 : Int) < (n0 : Int)) = false := decide_eq_false (by omega)
  have Hin := Lib.hid hin
  have Hsp := Lib.hid hsp
  have ha0 : decide (0 ≤ a) = true := decide_eq_true hlo
  have ha1 : decide (a < 17) = false := decide_eq_false (by omega)
  have hlo := Lib.hid hlo
  have hhi := Lib.hid hhi
  clear hn0 hin
  go_enter Tryd.func7, Tryd.ntmps7
  go_wp2_with fail
  refine (law_awake w hsp).mono ?_
  rintro e w1 ⟨rfl, hk1⟩
  go_wp2_with fail
  refine (stats_New _ n0 cap0 xs Hn0.out _ (ri_up hr0 hk1)).mono ?_
  rintro e w2 ⟨rfl, hk2⟩
  have hK2 := hk1.call hk2.out
  clear hk2 hk1
  have hc0 := okC_new hx
  obtain ⟨c, hc0e⟩ : ∃ c, newC xs = c := ⟨_, rfl⟩
  rw [hc0e] at hc0 ⊢
  have Hc := Lib.hid hc0
  have Z0 := Lib.hid (size28 (sizeC hc0))
  have O0 := Lib.hid (vC_one c)
  have V0 := Lib.hid (sizeC hc0)
  have hs1 := sum1 hc0 a
  have hs2 := sum2 hc0 a b
  clear hc0 hc0e
  go_wp2_with (first
    | (refine wpList_store_blk 28 (.tmp 8) (.tmp 16) rfl rfl w2.heap.size (vC c) rfl rfl (Blk.new w2 28 z17) Z0.out (by rw [V0.out]; rfl) O0.out ?_; intro W2 BA hf1 hf2 hz2; have hKA := hf2 w (hK2.alloc _) hK2.size; clear hf1 hf2 hz2)
    | fail)
  obtain ⟨gs, hgs⟩ : ∃ gs, w2.heap.size = gs := ⟨_, rfl⟩
  rw [hgs] at BA ⊢
  obtain ⟨na, hna⟩ : ∃ na, nameC a = na := ⟨_, rfl⟩
  obtain ⟨nb, hnb⟩ : ∃ nb, nameC b = nb := ⟨_, rfl⟩
  have Hna := Lib.hid hna
  have Hnb := Lib.hid hnb
  have hnone := name_none Hin.out
  rw [hna] at hnone
  obtain ⟨ga, hga⟩ : ∃ ga, getC c a = ga := ⟨_, rfl⟩
  obtain ⟨gb, hgb⟩ : ∃ gb, getC c b = gb := ⟨_, rfl⟩
  obtain ⟨s2, hs2e⟩ : ∃ s2, sumC c [a, b] = s2 := ⟨_, rfl⟩
  rw [hga] at hs1
  rw [hgb, hs2e] at hs2
  have Hs1 := Lib.hid hs1
  have Hs2 := Lib.hid hs2e
  have Hga := Lib.hid hga
  have Hgb := Lib.hid hgb
  have Hs3 : Hid (sumC c [] = 0) := Lib.hid rfl
  have hemp : na.toList.isEmpty = true := by rw [hnone, ByteArray.toList_eq]; rfl
  clear hna hnb hga hgb hs1 hs2e hgs hK2 hnone
  have hS : Steady (fun W' => Blk W' gs 28 (vC c) ∧ Kept w W') := fun w1 w2 h hb => ⟨h.1.call hb, h.2.call hb⟩
  refine wp_region_h 49 [(0, 0), (1, 0), (2, 0), (3, 0), (4, 0), (5, 0), (6, 0), (7, 0), (8, 0), (9, 0), (10, 0), (11, 0), (12, 0), (13, 0), (14, 0), (15, 0), (16, 0), (17, 0), (18, 0), (19, 0), (20, 0), (21, 0), (22, 0), (23, 0), (24, 0), (25, 0), (28, 0), (29, 0), (26, 3), (27, 0), (30, 0), (31, 0), (32, 0), (33, 0), (34, 0), (35, 0), (36, 0), (39, 0), (40, 0), (37, 3), (38, 0), (41, 0), (42, 0), (43, 0), (44, 0), (45, 0), (46, 0), (47, 0), (48, 0)] [] 0 (fun W' => Blk W' gs 28 (vC c) ∧ Kept w W') (by kernel_rfl) (by kernel_rfl) hS (fun _ _ => Nat.zero_le _) ⟨BA.out.drew, hKA.drew⟩ ?_
  simp only [List.map_cons, List.map_nil, List.getElem?_toArray, List.getElem?_cons_succ, List.getElem?_cons_zero]
  repeat (first
    | (apply h_val; rfl; (intro W hC; exact exec_load_row 28 (.tmp 8) rfl gs rfl hC.1 Tryd.underlying28 Z0.out); go_simp)
    | (apply h_val; rfl; (intro W hC; clear hC; go_simp; rfl); go_simp)
    | (refine h_off rfl ?_; go_simp)
    | (apply h_call (f := 17) (v := .string na); rfl; (intro W hC; go_simp; rfl); (intro W hC; (with_reducible refine (stats_Name a _ (Hsp.out.kept hC.2)).mono ?_); rintro e w1 ⟨rfl, hb1⟩; exact ⟨by rw [Hna.out], hb1.out⟩); go_simp)
    | (apply h_call (f := 17) (v := .string nb); rfl; (intro W hC; go_simp; rfl); (intro W hC; (with_reducible refine (stats_Name b _ (Hsp.out.kept hC.2)).mono ?_); rintro e w1 ⟨rfl, hb1⟩; exact ⟨by rw [Hnb.out], hb1.out⟩); go_simp))
  refine h_new (m := fun g => .slice (some ⟨g, 0, none⟩) 1 1) (z := #[.int .i64 a]) (t := 3) rfl (by intro w; go_simp) hS hS (fun _ h => h) ?_
  intro g1
  go_simp
  repeat (first
    | (apply h_val; rfl; (intro W hC; exact exec_load_row 28 (.tmp 8) rfl gs rfl hC.1.1 Tryd.underlying28 Z0.out); go_simp)
    | (apply h_val; rfl; (intro W hC; clear hC; go_simp; rfl); go_simp)
    | (refine h_off rfl ?_; go_simp)
    | (apply h_call (f := 15) (v := .int .u64 ga); rfl; (intro W hC; go_simp; rfl); (intro W hC; have r := ri_one (W := W) (g := g1) (l := [a]) hC.2; (with_reducible refine (stats_Sum c Hc.out (some ⟨g1, 0, none⟩) 1 1 [a] rfl (Nat.le_refl _) (by omega) _ r).mono ?_); rintro e w1 ⟨rfl, hb1⟩; exact ⟨by rw [Hs1.out], hb1.out⟩); go_simp)
    | (apply h_call (f := 11) (v := .int .u64 ga); rfl; (intro W hC; go_simp; rfl); (intro W hC; (with_reducible refine (stats_Get c a Hc.out _).mono ?_); rintro e w1 ⟨rfl, hb1⟩; exact ⟨by rw [Hga.out], hb1.out⟩); go_simp)
    | (apply h_call (f := 11) (v := .int .u64 gb); rfl; (intro W hC; go_simp; rfl); (intro W hC; (with_reducible refine (stats_Get c b Hc.out _).mono ?_); rintro e w1 ⟨rfl, hb1⟩; exact ⟨by rw [Hgb.out], hb1.out⟩); go_simp))
  refine h_new (m := fun g => .slice (some ⟨g, 0, none⟩) 2 2) (z := #[.int .i64 a, .int .i64 b]) (t := 3) rfl (by intro w; go_simp) (hS.blk _ _ _) (hS.blk _ _ _) (fun _ h => h) ?_
  intro g2
  go_simp
  repeat (first
    | (apply h_val; rfl; (intro W hC; exact exec_load_row 28 (.tmp 8) rfl gs rfl hC.1.1.1 Tryd.underlying28 Z0.out); go_simp)
    | (apply h_val; rfl; (intro W hC; clear hC; go_simp; rfl); go_simp)
    | (refine h_off rfl ?_; go_simp)
    | (apply h_call (f := 15) (v := .int .u64 s2); rfl; (intro W hC; go_simp; rfl); (intro W hC; have r := ri_one (W := W) (g := g2) (l := [a, b]) hC.2; (with_reducible refine (stats_Sum c Hc.out (some ⟨g2, 0, none⟩) 2 2 [a, b] rfl (Nat.le_refl _) (by omega) _ r).mono ?_); rintro e w1 ⟨rfl, hb1⟩; exact ⟨by rw [Hs2.out], hb1.out⟩); go_simp)
    | (apply h_call (f := 15) (v := .int .u64 0); rfl; (intro W hC; go_simp; rfl); (intro W hC; have r : Ri W W.heap.size .i64 none [] := .inl rfl; (with_reducible refine (stats_Sum c Hc.out none 0 0 [] rfl (Nat.le_refl _) (by omega) _ r).mono ?_); rintro e w1 ⟨rfl, hb1⟩; exact ⟨by rw [Hs3.out], hb1.out⟩); go_simp)
    | (apply h_call (f := 11) (v := .int .u64 ga); rfl; (intro W hC; go_simp; rfl); (intro W hC; (with_reducible refine (stats_Get c a Hc.out _).mono ?_); rintro e w1 ⟨rfl, hb1⟩; exact ⟨by rw [Hga.out], hb1.out⟩); go_simp)
    | (apply h_call (f := 11) (v := .int .u64 gb); rfl; (intro W hC; go_simp; rfl); (intro W hC; (with_reducible refine (stats_Get c b Hc.out _).mono ?_); rintro e w1 ⟨rfl, hb1⟩; exact ⟨by rw [Hgb.out], hb1.out⟩); go_simp))
  refine h_end fun W9 hC => ?_
  have hK9 := hC.1.1.2
  clear hC
  go_wp2_with fail
  go_ret
  exact ⟨rfl, hK9⟩
theorem law_StatsNames (A0 : Option Addr) (n0 cap0 : Nat) (xs : List Int) (hn0 : xs.length = n0) (hx : ∀ x ∈ xs, okU x) (a b : Int) (w : World) (hsp : Sp w)
    (hr0 : Ri w w.heap.size .u64 A0 xs) : Calls Tryd.prog 7 #[.slice A0 n0 cap0, .int .i64 a, .int .i64 b] w fun e w' => e = .returned (.bool true) ∧ Kept w w' := by
  rcases Nat.lt_or_ge 100 n0 with h0 | h0
  · exact law_StatsNames_long A0 n0 cap0 a b w hsp h0
  · cases hin : isK a with
    | true => exact law_StatsNames_in A0 n0 cap0 xs hn0 hx a b w hsp h0 hin hr0
    | false =>
      by_cases hlo : a < 0
      · exact law_StatsNames_lo A0 n0 cap0 xs hn0 hx a b w hsp h0 hin hlo hr0
      · exact law_StatsNames_hi A0 n0 cap0 xs hn0 hx a b w hsp h0 hin (by omega) (by
          have : ¬ (0 ≤ a ∧ a < 17) := fun h => by rw [show isK a = true by simp [isK, h.1, h.2]] at hin; cases hin
          omega) hr0
end Go.Proofs.YtapiffkeclnbbaaDoor.S
