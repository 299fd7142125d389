import Derived.Test.YtapiffkeclnbbaaDoorProg
import Derived.Below
import Derived.Deep.Draws
import Derived.Deep.AppendLies
import Derived.Maps.AppendAt
import Derived.OwnWalk
import Derived.Laws.MakeOwn
import Derived.Laws.OwnMore
import Derived.Deep.OwnRows
import Derived.Tactics
import Derived.Laws.Slices
import Derived.WalkKit
import Derived.KernelRfl
import Derived.RowKit3
import Derived.Deep.LoopGhost
import Derived.Deep.QuietTactic
import Derived.BigQuiet
import Derived.WideLaws
import Derived.Deep.DeepCutAuto
import Derived.Deep.CutBlock
import Derived.Deep.RegionHeld3
import Derived.Deep.RegionWith
import Derived.Deep.RegionLaw
import Derived.Laws.Rows
import Derived.ArgAppend
import Derived.OrdersHeld
import Derived.Laws.BitsLemmas
import Derived.Laws.StructEq
import Derived.RowKit
import Derived.Lib.Hide
import Derived.Lib.SliceRun
import Derived.StillTail
import Derived.Laws.CopyOwn
import Derived.Test.YtapiffkeclnbbaaDoorB0
import Derived.Test.YtapiffkeclnbbaaDoorB1
import Derived.Test.YtapiffkeclnbbaaDoorB2
import Derived.Test.YtapiffkeclnbbaaDoorB3
import Derived.Test.YtapiffkeclnbbaaDoorB4
import Derived.Test.YtapiffkeclnbbaaDoorB5
import Derived.Test.YtapiffkeclnbbaaDoorB7
import Derived.Test.YtapiffkeclnbbaaDoorB8
import Derived.Test.YtapiffkeclnbbaaDoorS1
import Derived.Test.YtapiffkeclnbbaaDoorS2
import Derived.Test.YtapiffkeclnbbaaDoorS3
import Derived.Test.YtapiffkeclnbbaaDoorS4
import Derived.Test.YtapiffkeclnbbaaDoorS5
import Derived.Test.YtapiffkeclnbbaaDoorS6
import Derived.Test.YtapiffkeclnbbaaDoorS7
import Derived.Test.YtapiffkeclnbbaaDoorS8
import Derived.Test.YtapiffkeclnbbaaDoorT1
import Derived.Test.YtapiffkeclnbbaaDoorS9
/-! kedgelaw15.StatsAre. -/
set_option linter.unusedVariables false
set_option linter.unusedSimpArgs false
namespace Go.Proofs.YtapiffkeclnbbaaDoor.S
open Go.RowKit Go.Proofs.YtapiffkeclnbbaaDoor.B0
attribute [local irreducible] wpQuiet wpHq
theorem ri_up {w W : World} {k : IntKind} {A : Option Addr} {xs : List Int} (h : Ri w w.heap.size k A xs) (hk : Kept w W) : Ri W W.heap.size k A xs := by
  rcases h.below hk.out with h | ⟨b, off, e, hlt, hc⟩
  · exact .inl h
  · exact .inr ⟨b, off, e, Nat.lt_of_lt_of_le hlt hk.size, hc⟩
theorem rd_up {α : Type} {sz : Nat} {enc : α → List Value} {w W : World} {A : Option Addr} {xs : List α} (h : Rd w w.heap.size sz enc A xs) (hk : Kept w W) : Rd W W.heap.size sz enc A xs := (h.below hk.out).more hk.size
set_option maxHeartbeats 4000000 in
set_option maxRecDepth 100000 in
theorem law_StatsAre (A0 : Option Addr) (n0 cap0 : Nat) (xs : List Int) (hn0 : xs.length = n0) (hnc0 : n0 ≤ cap0) (hx : ∀ x ∈ xs, okU x) (A : Option Addr) (n cap : Nat) (l : List ActV) (hn : l.length = n) (hnc : n ≤ cap) (hmx : n ≤ 9223372036854775807) (hl : ∀ a ∈ l, a.n < 9223372036854775808) (kk : Int)
    (A2 : Option Addr) (n2 cap2 : Nat) (ms : List Int) (hn2 : ms.length = n2) (hnc2 : n2 ≤ cap2) (hmx2 : n2 ≤ 9223372036854775807) (w : World) (hsp : Sp w)
    (hr0 : Ri w w.heap.size .u64 A0 xs) (hr : Rd w w.heap.size 2 encAct A l) (hr2 : Ri w w.heap.size .i64 A2 ms) : Calls Tryd.prog 6 #[.slice A0 n0 cap0, .slice A n cap, .int .i64 kk, .slice A2 n2 cap2] w fun e w' => e = .returned (.bool true) ∧ Kept w w' := by
  have hu := Tryd.underlying28
  have hu38 := Tryd.underlying38
  have Hn := Lib.hid hn
  have Hn0 := Lib.hid hn0
  have Hn2 := Lib.hid hn2
  clear hn hn0 hn2
  rcases Nat.lt_or_ge 100 n0 with h0 | h0
  · have d0 : decide ((100 : Int) < (n0 : Int)) = true := decide_eq_true (by omega)
    clear h0
    go_enter Tryd.func6, Tryd.ntmps6
    go_wp2_with fail
    refine (law_awake w hsp).mono ?_
    rintro e w1 ⟨rfl, hk1⟩
    go_wp2_with fail
    go_ret
    exact ⟨rfl, hk1⟩
  · have d0 : decide ((100 : Int) < (n0 : Int)) = false := decide_eq_false (by omega)
    rcases Nat.lt_or_ge 200 n with h1 | h1
    · have d1 : decide ((200 : Int) < (n : Int)) = true := decide_eq_true (by omega)
      have h0 := Lib.hid h0
      clear h1
      go_enter Tryd.func6, Tryd.ntmps6
      go_wp2_with fail
      refine (law_awake w hsp).mono ?_
      rintro e w1 ⟨rfl, hk1⟩
      go_wp2_with fail
      go_ret
      exact ⟨rfl, hk1⟩
    · have d1 : decide ((200 : Int) < (n : Int)) = false := decide_eq_false (by omega)
      rcases Nat.lt_or_ge 200 n2 with h2 | h2
      · have d2 : decide ((200 : Int) < (n2 : Int)) = true := decide_eq_true (by omega)
        have h0 := Lib.hid h0
        have h1 := Lib.hid h1
        clear h2
        go_enter Tryd.func6, Tryd.ntmps6
        go_wp2_with fail
        refine (law_awake w hsp).mono ?_
        rintro e w1 ⟨rfl, hk1⟩
        go_wp2_with fail
        go_ret
        exact ⟨rfl, hk1⟩
      · have d2 : decide ((200 : Int) < (n2 : Int)) = false := decide_eq_false (by omega)
        go_enter Tryd.func6, Tryd.ntmps6
        go_wp2_with fail
        refine (law_awake w hsp).mono ?_
        rintro e w1 ⟨rfl, hk1⟩
        go_wp2_with fail
        refine (stats_New _ n0 cap0 xs Hn0.out _ (ri_up hr0 hk1)).mono ?_
        rintro e w2 ⟨rfl, hk2⟩
        have hK2 := hk1.call hk2.out
        clear hk2 hk1
        have hc0 := okC_new hx
        obtain ⟨c0, hc0e⟩ : ∃ c0, newC xs = c0 := ⟨_, rfl⟩
        have Hc0e := Lib.hid hc0e
        rw [hc0e] at hc0 ⊢
        have Hc0 := Lib.hid hc0
        have Z0 := Lib.hid (size28 (sizeC hc0))
        have Y0 := Lib.hid (size38 (sizeC hc0))
        have O0 := Lib.hid (vC_one c0)
        have V0 := Lib.hid (sizeC hc0)
        clear hc0 hc0e
        go_wp2_with (first
          | (refine wpList_store_blk 28 (.tmp 10) (.tmp 29) rfl rfl w2.heap.size (vC c0) rfl rfl (Blk.new w2 28 z17) Z0.out (by rw [V0.out]; rfl) O0.out ?_; intro W2 BA hf1 hf2 hz2; have hKA := hf2 w (hK2.alloc _) hK2.size; clear hf1 hf2 hz2)
          | fail)
        have hwa : w.heap.size ≤ w2.heap.size := hK2.size
        obtain ⟨ga, hga⟩ : ∃ ga, w2.heap.size = ga := ⟨_, rfl⟩
        rw [hga] at BA hwa ⊢
        refine (ref_New _ n0 cap0 xs Hn0.out hnc0 (by omega) _ (ri_up hr0 hKA)).mono ?_
        rintro e w3 ⟨rfl, hk3⟩
        have hK3 := hKA.call hk3.out
        have BA := Lib.hid (BA.out.call hk3.out)
        clear hk3 hKA
        rw [Hc0e.out]
        go_wp2_with (first
          | (refine wpList_store_blk 38 (.tmp 11) (.tmp 31) rfl rfl w3.heap.size (vC c0) rfl rfl (Blk.new w3 38 z17) Y0.out (by rw [V0.out]; rfl) O0.out ?_; intro W3 BB hg3 hf3 hz3; have BA3 := Lib.hid (hg3 _ _ _ (Nat.ne_of_lt BA.out.lt) (BA.out.alloc _)); have hKB := hf3 w (hK3.alloc _) hK3.size; clear hf3 hg3 hz3)
          | fail)
        have hgab := BA.out.lt
        obtain ⟨gb, hgb⟩ : ∃ gb, w3.heap.size = gb := ⟨_, rfl⟩
        rw [hgb] at hgab BB ⊢
        clear BA hK3 hgb hga hK2
        go_loopw [12] (fun i wr => ∃ (k : Nat) (c : List Int), k ≤ n ∧ i = .int .i64 k ∧ okC c ∧ Blk wr ga 28 (vC c) ∧ Blk wr gb 38 (vC c) ∧ Kept w wr)
          (fun i _ => n - (intOf i).toNat)
        case atStart => exact ⟨0, c0, Nat.zero_le _, rfl, Hc0.out, BA3.out, BB.out, hKB⟩
        case round =>
          obtain ⟨k, c, hk, rfl, hcok, B, B', hK⟩ := hrel
          have HB := Lib.hid B
          have HB' := Lib.hid B'
          have Hcok := Lib.hid hcok
          have Z := Lib.hid (size28 (sizeC hcok))
          have Y := Lib.hid (size38 (sizeC hcok))
          have X := Lib.hid (size26 (sizeC hcok))
          have V := Lib.hid (sizeC hcok)
          clear B B' hcok
          by_cases hlt : k < n
          · have hlx : k < l.length := by rw [Hn.out]; exact hlt
            obtain ⟨b, off, rfl, hb, hcs⟩ := hr.get hlx
            obtain ⟨a, ha⟩ : ∃ a, l[k] = a := ⟨_, rfl⟩
            have Hal : Hid (a.n < 9223372036854775808) := Lib.hid (ha ▸ hl _ (List.getElem_mem hlx))
            rw [ha] at hcs
            clear ha
            have hk0 : (0 : Int) ≤ (k : Int) := by omega
            have hkl : (k : Int) < (n : Int) := by omega
            have cell0 := fun (W : World) (h : Kept w W) => (h.out.cell (p := ⟨b, off + k * 2, none⟩) hb).trans (hcs 0 _ rfl)
            have cell1 := fun (W : World) (h : Kept w W) => (h.out.cell (p := ⟨b, off + k * 2 + 1, none⟩) hb).trans (hcs 1 _ rfl)
            have hc1ok := okC_bump Hcok.out a.k a.n Hal.out
            obtain ⟨c1, hc1⟩ : ∃ c1, bumpC c a.k a.n = c1 := ⟨_, rfl⟩
            rw [hc1] at hc1ok
            have Hc1ok := Lib.hid hc1ok
            have Z1 := Lib.hid (size28 (sizeC hc1ok))
            have Y1 := Lib.hid (size38 (sizeC hc1ok))
            have X1 := Lib.hid (size26 (sizeC hc1ok))
            have O1 := Lib.hid (vC_one c1)
            have V1 := Lib.hid (V.out.trans (sizeC hc1ok).symm)
            have he := equalIn26 9998 c1 c1 hc1ok.1 hc1ok.1
            rw [beq_self_eq_true] at he
            have Hc1 := Lib.hid hc1
            clear hc1 hc1ok
            go_wp2_with fail
            refine wp_region_qtail 12 (C := fun W' => Blk W' ga 28 (vC c) ∧ Blk W' gb 38 (vC c) ∧ Kept w W') (by kernel_rfl) (by kernel_rfl) ⟨HB.out.drew, HB'.out.drew, hK.drew⟩ ?_
            go_simp
            repeat (first
              | (apply q_val; rfl; (intro W hC; exact exec_load_row 28 (.tmp 10) rfl ga rfl hC.1 Tryd.underlying28 Z.out); go_simp)
              | (apply q_val; rfl; (intro W hC; have k0 := cell0 W hC.2.2; have k1 := cell1 W hC.2.2; clear hC; go_simp; rfl); go_simp)
              | (refine q_off rfl ?_; go_simp)
              | (apply q_call (f := 10) (v := .agg (vC c1)); rfl; (intro W hC; go_simp; rfl); (intro W hC; (with_reducible refine (stats_Bump c a.k a.n Hcok.out Hal.out _).mono ?_); rintro e w1 ⟨rfl, hb1⟩; exact ⟨by rw [Hc1.out], hC.1.call hb1.out, hC.2.1.call hb1.out, hC.2.2.call hb1.out⟩); go_simp))
            refine q_end ?_
            intro W1 B1 B2 hK1
            have HB1 := Lib.hid B1
            have HB2 := Lib.hid B2
            clear B1 B2
            go_wp2_with (first
              | (refine wpList_store_blk 28 (.tmp 10) (.tmp 49) rfl rfl ga (vC c1) rfl rfl HB1.out Z1.out V1.out O1.out ?_; intro W4 BA4 hg4 hf4 hz4; have BB4 := Lib.hid (hg4 _ _ _ (Nat.ne_of_gt hgab) HB2.out); have hK4 := hf4 w hK1 hwa; clear hf4 hg4 hz4)
              | fail)
            refine wp_region_qtail 12 (C := fun W' => Blk W' ga 28 (vC c1) ∧ Blk W' gb 38 (vC c) ∧ Kept w W') (by kernel_rfl) (by kernel_rfl) ⟨BA4.out.drew, BB4.out.drew, hK4.drew⟩ ?_
            go_simp
            repeat (first
              | (apply q_val; rfl; (intro W hC; exact exec_load_row 38 (.tmp 11) rfl gb rfl hC.2.1 Tryd.underlying38 Y.out); go_simp)
              | (apply q_val; rfl; (intro W hC; have k0 := cell0 W hC.2.2; have k1 := cell1 W hC.2.2; clear hC; go_simp; rfl); go_simp)
              | (refine q_off rfl ?_; go_simp)
              | (apply q_call (f := 13) (v := .agg (vC c1)); rfl; (intro W hC; go_simp; rfl); (intro W hC; (with_reducible refine (ref_Bump c a.k a.n Hcok.out Hal.out _).mono ?_); rintro e w1 ⟨rfl, hb1⟩; exact ⟨by rw [Hc1.out], hC.1.call hb1.out, hC.2.1.call hb1.out, hC.2.2.call hb1.out⟩); go_simp))
            refine q_end ?_
            intro W5 B1 B2 hK5
            have HB5 := Lib.hid B1
            have HB6 := Lib.hid B2
            clear B1 B2 cell0 cell1
            go_wp2_with (first
              | (refine wpList_store_blk 38 (.tmp 11) (.tmp 61) rfl rfl gb (vC c1) rfl rfl HB6.out Y1.out V1.out O1.out ?_; intro W6 BB7 hg4 hf4 hz4; have BA7 := Lib.hid (hg4 _ _ _ (Nat.ne_of_lt hgab) HB5.out); have hK6 := hf4 w hK5 (Nat.le_trans hwa (Nat.le_of_lt hgab)); clear hf4 hg4 hz4)
              | (refine wpList_load_row rfl 26 (.tmp 62) rfl ga rfl 28 (vC c1) (0, 0) _ BA7.out.out Tryd.underlying26 rfl X1.out ?_)
              | (refine wpList_load_row rfl 26 (.tmp 64) rfl gb rfl 38 (vC c1) (0, 0) _ BB7.out.out Tryd.underlying26 rfl X1.out ?_)
              | fail)
            go_roundw
            case rel => exact ⟨k + 1, c1, by omega, by go_num, Hc1ok.out, BA7.out, BB7.out, hK6⟩
            case measure => simp [intOf]; omega
          · have dn : decide ((k : Int) < (n : Int)) = false := decide_eq_false (by omega)
            have he := equalIn26 9998 c c Hcok.out.1 Hcok.out.1
            rw [beq_self_eq_true] at he
            have Hsp := Lib.hid hsp
            have Hr2 := Lib.hid hr2
            have hgo := okC_getC Hcok.out kk
            go_wp2_with fail
            refine wp_region_quiet (C := fun W' => Blk W' ga 28 (vC c) ∧ Blk W' gb 38 (vC c) ∧ Kept w W') (by kernel_rfl) (by kernel_rfl) ⟨HB.out.drew, HB'.out.drew, hK.drew⟩ ?_
            go_simp
            repeat (first
              | (apply q_val; rfl; (intro W hC; exact exec_load_arr 26 (.tmp 69) rfl ga rfl hC.1 Tryd.underlying26 X.out); go_simp)
              | (apply q_val; rfl; (intro W hC; exact exec_load_arr 26 (.tmp 71) rfl gb rfl hC.2.1 Tryd.underlying26 X.out); go_simp)
              | (apply q_val; rfl; (intro W hC; exact exec_load_row 28 (.tmp 10) rfl ga rfl hC.1 Tryd.underlying28 Z.out); go_simp)
              | (apply q_val; rfl; (intro W hC; exact exec_load_row 38 (.tmp 11) rfl gb rfl hC.2.1 Tryd.underlying38 Y.out); go_simp)
              | (apply q_val; rfl; (intro W hC; clear hC; go_simp; rfl); go_simp)
              | (refine q_off rfl ?_; go_simp)
              | (apply q_call (f := 11) (v := .int .u64 (getC c kk)); rfl; (intro W hC; go_simp; rfl); (intro W hC; (with_reducible refine (stats_Get c kk Hcok.out _).mono ?_); rintro e w1 ⟨rfl, hb1⟩; exact ⟨rfl, hC.1.call hb1.out, hC.2.1.call hb1.out, hC.2.2.call hb1.out⟩); go_simp)
              | (apply q_call (f := 14) (v := .int .u64 (getC c kk)); rfl; (intro W hC; go_simp; rfl); (intro W hC; (with_reducible refine (ref_Get c kk Hcok.out _).mono ?_); rintro e w1 ⟨rfl, hb1⟩; exact ⟨rfl, hC.1.call hb1.out, hC.2.1.call hb1.out, hC.2.2.call hb1.out⟩); go_simp)
              | (apply q_call (f := 15) (v := .int .u64 (sumC c ms)); rfl; (intro W hC; go_simp; rfl); (intro W hC; (with_reducible refine (stats_Sum c Hcok.out A2 n2 cap2 ms Hn2.out hnc2 hmx2 _ (ri_up Hr2.out hC.2.2)).mono ?_); rintro e w1 ⟨rfl, hb1⟩; exact ⟨rfl, hC.1.call hb1.out, hC.2.1.call hb1.out, hC.2.2.call hb1.out⟩); go_simp)
              | (apply q_call (f := 16) (v := .int .u64 (sumC c ms)); rfl; (intro W hC; go_simp; rfl); (intro W hC; (with_reducible refine (ref_Sum c Hcok.out A2 n2 cap2 ms Hn2.out hnc2 hmx2 _ (ri_up Hr2.out hC.2.2)).mono ?_); rintro e w1 ⟨rfl, hb1⟩; exact ⟨rfl, hC.1.call hb1.out, hC.2.1.call hb1.out, hC.2.2.call hb1.out⟩); go_simp)
              | (apply q_call (f := 17) (v := .string (nameC kk)); rfl; (intro W hC; go_simp; rfl); (intro W hC; (with_reducible refine (stats_Name kk _ (Hsp.out.kept hC.2.2)).mono ?_); rintro e w1 ⟨rfl, hb1⟩; exact ⟨rfl, hC.1.call hb1.out, hC.2.1.call hb1.out, hC.2.2.call hb1.out⟩); go_simp)
              | (apply q_call (f := 18) (v := .string (nameC kk)); rfl; (intro W hC; go_simp; rfl); (intro W hC; (with_reducible refine (ref_Name kk _).mono ?_); rintro e w1 ⟨rfl, hb1⟩; exact ⟨rfl, hC.1.call hb1.out, hC.2.1.call hb1.out, hC.2.2.call hb1.out⟩); go_simp))
            refine q_end ?_
            intro W9 B1 B2 hK9
            clear B1 B2
            go_wp2_with fail
            go_ret
            exact ⟨rfl, hK9⟩
end Go.Proofs.YtapiffkeclnbbaaDoor.S
