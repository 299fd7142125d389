import Derived.Test.YtapiffkeclnbbaaDoorProg
import Derived.Below
import Derived.Deep.Draws
import Derived.Deep.AppendLies
import Derived.Maps.AppendAt
import Derived.OwnWalk
import Derived.Laws.MakeOwn
import Derived.Laws.OwnMore
import Derived.Deep.OwnRows
import Derived.Tactics
import Derived.Laws.Slices
import Derived.WalkKit
import Derived.KernelRfl
import Derived.RowKit3
import Derived.Deep.LoopGhost
import Derived.Deep.QuietTactic
import Derived.BigQuiet
import Derived.WideLaws
import Derived.Deep.DeepCutAuto
import Derived.Deep.CutBlock
import Derived.Deep.RegionHeld3
import Derived.Deep.RegionWith
import Derived.Deep.RegionLaw
import Derived.Laws.Rows
import Derived.ArgAppend
import Derived.OrdersHeld
import Derived.Laws.BitsLemmas
import Derived.Laws.StructEq
import Derived.RowKit
import Derived.Lib.Hide
import Derived.Lib.SliceRun
import Derived.StillTail
import Derived.Laws.CopyOwn
import Derived.Test.YtapiffkeclnbbaaDoorB0
import Derived.Test.YtapiffkeclnbbaaDoorB1
import Derived.Test.YtapiffkeclnbbaaDoorB2
import Derived.Test.YtapiffkeclnbbaaDoorB3
import Derived.Test.YtapiffkeclnbbaaDoorB4
import Derived.Test.YtapiffkeclnbbaaDoorB5
import Derived.Test.YtapiffkeclnbbaaDoorB7
import Derived.Test.YtapiffkeclnbbaaDoorB8
import Derived.Test.YtapiffkeclnbbaaDoorS1
import Derived.Test.YtapiffkeclnbbaaDoorS2
import Derived.Test.YtapiffkeclnbbaaDoorS3
import Derived.Test.YtapiffkeclnbbaaDoorS4
import Derived.Test.YtapiffkeclnbbaaDoorS5
import Derived.Test.YtapiffkeclnbbaaDoorS6
import Derived.Test.YtapiffkeclnbbaaDoorS7
import Derived.Test.YtapiffkeclnbbaaDoorS8
/-! kedgelaw15.StatsNever. -/
set_option linter.unusedVariables false
set_option linter.unusedSimpArgs false
namespace Go.Proofs.YtapiffkeclnbbaaDoor.S
open Go.RowKit Go.Proofs.YtapiffkeclnbbaaDoor.B0
attribute [local irreducible] wpQuiet wpHq
/-- one thing that is done: the count k is n more -/
structure ActV where
  k : Int
  n : Int
def encAct (a : ActV) : List Value := [.int .i64 a.k, .int .i64 a.n]
def okAct (a : ActV) : Prop := a.n < 9223372036854775808
theorem bump_other {c : List Int} {k K n : Int} (h : isK k = true) (hne : k ≠ K) : getC (bumpC c K n) k = getC c k := by
  have hk : 0 ≤ k ∧ k < 17 := by simpa [isK] using h
  unfold getC bumpC
  rw [if_pos h, if_pos h]
  split
  · rename_i hK
    have hK2 : 0 ≤ K ∧ K < 17 := by simpa [isK] using hK.1
    rw [List.getElem?_set_ne (by omega)]
  · rfl
theorem bump_self {c : List Int} {k n : Int} (hc : c.length = 17) (h : isK k = true) (hn : 0 < n) : getC (bumpC c k n) k = addV (getC c k) n := by
  have hk : 0 ≤ k ∧ k < 17 := by simpa [isK] using h
  unfold getC bumpC
  rw [if_pos h, if_pos h, if_pos ⟨h, hn⟩, List.getElem?_set_self (by omega)]
  rfl
theorem bump_none {c : List Int} {k n : Int} (hn : ¬ 0 < n) : bumpC c k n = c := by
  unfold bumpC
  rw [if_neg (fun h => hn h.2)]
set_option maxHeartbeats 8000000 in
set_option maxRecDepth 100000 in
theorem law_StatsNever (A0 : Option Addr) (n0 cap0 : Nat) (xs : List Int) (hn0 : xs.length = n0) (hx : ∀ x ∈ xs, okU x) (A : Option Addr) (n cap : Nat) (l : List ActV) (hn : l.length = n) (hnc : n ≤ cap) (hmx : n ≤ 9223372036854775807) (hl : ∀ a ∈ l, okAct a) (w : World) (hsp : Sp w)
    (hr0 : Ri w w.heap.size .u64 A0 xs) (hr : Rd w w.heap.size 2 encAct A l) : Calls Tryd.prog 3 #[.slice A0 n0 cap0, .slice A n cap] w fun e w' => e = .returned (.bool true) ∧ Kept w w' := by
  have hu := Tryd.underlying28
  have Hn := Lib.hid hn
  have Hn0 := Lib.hid hn0
  clear hn hn0
  by_cases hbig : (100 < n0 ∨ 200 < n)
  · rcases Nat.lt_or_ge 100 n0 with h0 | h0
    · have d0 : decide ((100 : Int) < (n0 : Int)) = true := decide_eq_true (by omega)
      have hbig := Lib.hid hbig
      clear h0
      go_enter Tryd.func3, Tryd.ntmps3
      go_wp2_with fail
      refine (law_awake w hsp).mono ?_
      rintro e w1 ⟨rfl, hk1⟩
      go_wp2_with fail
      go_ret
      exact ⟨rfl, hk1⟩
    · have d0 : decide ((100 : Int) < (n0 : Int)) = false := decide_eq_false (by omega)
      have d1 : decide ((200 : Int) < (n : Int)) = true := decide_eq_true (by omega)
      have hbig := Lib.hid hbig
      have h0 := Lib.hid h0
      go_enter Tryd.func3, Tryd.ntmps3
      go_wp2_with fail
      refine (law_awake w hsp).mono ?_
      rintro e w1 ⟨rfl, hk1⟩
      go_wp2_with fail
      go_ret
      exact ⟨rfl, hk1⟩
  · have hb0 : n0 ≤ 100 := by omega
    have hb1 : n ≤ 200 := by omega
    have d0 : decide ((100 : Int) < (n0 : Int)) = false := decide_eq_false (by omega)
    have d1 : decide ((200 : Int) < (n : Int)) = false := decide_eq_false (by omega)
    clear hbig
    go_enter Tryd.func3, Tryd.ntmps3
    go_wp2_with fail
    refine (law_awake w hsp).mono ?_
    rintro e w1 ⟨rfl, hk1⟩
    go_wp2_with fail
    have hr1 : Ri w1 w1.heap.size .u64 A0 xs := by
      have h := hr0.below hk1.out
      rcases h with h | ⟨b, off, e, hlt, hc⟩
      · exact .inl h
      · exact .inr ⟨b, off, e, Nat.lt_of_lt_of_le hlt hk1.size, hc⟩
    refine (stats_New _ n0 cap0 xs Hn0.out _ hr1).mono ?_
    rintro e w2 ⟨rfl, hk2⟩
    have hK2 := hk1.call hk2.out
    clear hk2 hk1 hr1
    have hc0 := okC_new hx
    obtain ⟨c0, hc0e⟩ : ∃ c0, newC xs = c0 := ⟨_, rfl⟩
    rw [hc0e] at hc0 ⊢
    have SZ := fun (c : List Int) (h : okC c) => size28 (sizeC h)
    have HSZ := Lib.hid SZ
    have Hc0 := Lib.hid hc0
    have Z0 := Lib.hid (size28 (sizeC hc0))
    have O0 := Lib.hid (vC_one c0)
    have V0 := Lib.hid (sizeC hc0)
    clear hc0 SZ hc0e
    go_wp2_with (first
      | (refine wpList_store_row rfl 28 (.tmp 6) (.tmp 23) rfl w2.heap.size (vC c0) rfl rfl 28 z17 (Blk.new w2 _ _).out Z0.out (by rw [V0.out]; rfl) O0.out ?_)
      | fail)
    go_loopw [7] (fun i wr => ∃ (k : Nat) (c : List Int), k ≤ n ∧ i = .int .i64 k ∧ okC c ∧ Blk wr w2.heap.size 28 (vC c) ∧ Kept w wr)
      (fun i _ => n - (intOf i).toNat)
    case atStart => exact ⟨0, c0, Nat.zero_le _, rfl, Hc0.out, blk_row _ (Blk.new w2 _ _), kept_row (hK2.alloc _) _ hK2.size⟩
    case round =>
      obtain ⟨k, c, hk, rfl, hcok, B, hK⟩ := hrel
      have HB := Lib.hid B
      have Hcok := Lib.hid hcok
      clear B hcok
      by_cases hlt : k < n
      · have hlx : k < l.length := by rw [Hn.out]; exact hlt
        obtain ⟨b, off, rfl, hb, hcs⟩ := hr.get hlx
        obtain ⟨a, ha⟩ : ∃ a, l[k] = a := ⟨_, rfl⟩
        have hal := hl _ (List.getElem_mem hlx)
        rw [ha] at hcs hal
        have Hal : Hid (a.n < 9223372036854775808) := Lib.hid hal
        clear ha hal
        have hk0 : (0 : Int) ≤ (k : Int) := by omega
        have hkl : (k : Int) < (n : Int) := by omega
        have cell0 := fun (W : World) (h : Kept w W) => (h.out.cell (p := ⟨b, off + k * 2, none⟩) hb).trans (hcs 0 _ rfl)
        have cell1 := fun (W : World) (h : Kept w W) => (h.out.cell (p := ⟨b, off + k * 2 + 1, none⟩) hb).trans (hcs 1 _ rfl)
        have Hc1ok := Lib.hid (okC_bump Hcok.out a.k a.n Hal.out)
        obtain ⟨c1, hc1⟩ : ∃ c1, bumpC c a.k a.n = c1 := ⟨_, rfl⟩
        rw [hc1] at Hc1ok
        have Z1 := Lib.hid (size28 (sizeC Hc1ok.out))
        have O1 := Lib.hid (vC_one c1)
        have V1 := Lib.hid (sizeC Hc1ok.out)
        have Hc1 := Lib.hid hc1
        have Zc := Lib.hid (size28 (sizeC Hcok.out))
        clear hc1
        go_wp2_with fail
        have hS : Steady (fun W' => Blk W' w2.heap.size 28 (vC c) ∧ Kept w W') := fun w1 w2 h hb => ⟨h.1.call hb, h.2.call hb⟩
        refine wp_region_h 13 [(0, 0), (1, 0), (2, 0), (3, 0), (4, 0), (5, 0), (6, 0), (7, 0), (8, 0), (9, 0), (10, 0), (11, 0), (12, 2)] [12] (w2.heap.size + 1) (fun W' => Blk W' w2.heap.size 28 (vC c) ∧ Kept w W') (by kernel_rfl) (by kernel_rfl) hS (fun W h => h.1.lt) ⟨HB.out.drew, hK.drew⟩ ?_
        simp only [List.map_cons, List.map_nil, List.getElem?_toArray, List.getElem?_cons_succ, List.getElem?_cons_zero]
        repeat (first
          | (apply h_val; rfl; (intro W hC; exact exec_load_row 28 (.tmp 6) rfl w2.heap.size rfl hC.1 Tryd.underlying28 Zc.out); go_simp)
          | (apply h_val; rfl; (intro W hC; have k0 := cell0 W hC.2; have k1 := cell1 W hC.2; clear hC; go_simp; rfl); go_simp)
          | (refine h_off rfl ?_; go_simp)
          | (apply h_call (f := 10) (v := .agg (vC c1)); rfl; (intro W hC; go_simp; rfl); (intro W hC; (with_reducible refine (stats_Bump c a.k a.n Hcok.out Hal.out _).mono ?_); rintro e w1 ⟨rfl, hb1⟩; exact ⟨by rw [Hc1.out], hb1.out⟩); go_simp))
        refine h_alloc (m := fun g => .pointer (some ⟨g, 0, none⟩)) (z := z17) (t := 28) rfl ?_ (by intro w; go_simp; rfl) ?_
        · intro j hj
          rw [List.mem_singleton.1 hj]
          exact ⟨_, rfl, rfl, (fun g => .pointer (some ⟨g, 0, none⟩)), z17, 28, by intro w; go_simp; rfl⟩
        intro g hg
        go_simp
        refine h_end fun W1 hC1 => ?_
        obtain ⟨⟨B1, hK1⟩, BG⟩ := hC1
        have HB1 := Lib.hid B1
        have HBG := Lib.hid BG
        clear B1 BG
        go_wp2_with (first
          | (refine wpList_store_row rfl 28 (.tmp 8) (.tmp 41) rfl g (vC c1) rfl rfl 28 z17 HBG.out.out Z1.out (by rw [V1.out]; rfl) O1.out ?_)
          | fail)
        have hne : w2.heap.size ≠ g := by omega
        go_loopw [9] (fun j wr => ∃ J : Nat, J ≤ 17 ∧ j = .int .i64 J ∧ Blk wr w2.heap.size 28 (vC c) ∧ Blk wr g 28 (vC c1) ∧ Kept w wr)
          (fun j _ => 17 - (intOf j).toNat)
        case atStart => exact ⟨0, Nat.zero_le _, rfl, blk_row_far _ HB1.out hne, blk_row _ HBG.out, kept_row hK1 _ (by have := hK2.size; omega)⟩
        case round =>
          obtain ⟨J, hJ, rfl, B2, B3, hK3⟩ := hrel
          have HB2 := Lib.hid B2
          have HB3 := Lib.hid B3
          clear B2 B3
          by_cases hltJ : J < 17
          · have dJ : decide ((J : Int) < 17) = true := decide_eq_true (by omega)
            have hjk : isK (J : Int) = true := by simp [isK]; omega
            have hgx := okC_getC Hcok.out (J : Int)
            have key : (a.k ≠ J ∨ ¬ 0 < a.n) ∧ getC c1 J = getC c J ∨ (a.k = J ∧ 0 < a.n) ∧ getC c1 J = addV (getC c J) a.n := by
              rw [← Hc1.out]
              by_cases h1 : (J : Int) = a.k
              · by_cases h2 : 0 < a.n
                · right
                  rw [← h1]
                  exact ⟨⟨rfl, h2⟩, bump_self Hcok.out.1 hjk h2⟩
                · left
                  exact ⟨.inr h2, by rw [bump_none h2]⟩
              · left
                exact ⟨.inl (Ne.symm h1), bump_other hjk h1⟩
            have hjk := Lib.hid hjk
            obtain ⟨x, hx0⟩ : ∃ x, getC c J = x := ⟨_, rfl⟩
            obtain ⟨y, hy0⟩ : ∃ y, getC c1 J = y := ⟨_, rfl⟩
            have Hx := Lib.hid hx0
            have Hy := Lib.hid hy0
            rw [hx0] at key hgx
            rw [hy0] at key
            unfold okU at hgx
            clear hx0 hy0
            have cK0 := cell0
            have cK1 := cell1
            go_wp2_with (first
              | (refine wpList_load_row rfl 28 (.tmp 6) rfl w2.heap.size rfl 28 (vC c) (0, 0) _ HB2.out.out Tryd.underlying28 rfl Zc.out ?_)
              | fail)
            refine (stats_Get c J Hcok.out _).mono ?_
            rintro e w5 ⟨rfl, hb5⟩
            rw [Hx.out]
            have HB2 := Lib.hid (HB2.out.call hb5.out)
            have HB3 := Lib.hid (HB3.out.call hb5.out)
            have hK5 := hK3.call hb5.out
            clear hb5 hK3
            go_wp2_with (first
              | (refine wpList_load_row rfl 28 (.tmp 8) rfl g rfl 28 (vC c1) (0, 0) _ HB3.out.out Tryd.underlying28 rfl Z1.out ?_)
              | fail)
            refine (stats_Get c1 J Hc1ok.out _).mono ?_
            rintro e w6 ⟨rfl, hb6⟩
            rw [Hy.out]
            have HB2 := Lib.hid (HB2.out.call hb6.out)
            have HB3 := Lib.hid (HB3.out.call hb6.out)
            have hK6 := hK5.call hb6.out
            clear hb6 hK5
            have e0 := cK0 w6 hK6
            have e1 := cK1 w6 hK6
            clear cK0 cK1 cell0 cell1
            obtain ⟨ak, an⟩ := a
            simp only at key e0 e1
            rcases key with ⟨hne1, hyx⟩ | ⟨⟨hk1, hn1⟩, hyx⟩
            · subst hyx
              have t0 : decide (y < y) = false := decide_eq_false (by omega)
              have t1 : (y == y) = true := beq_self_eq_true y
              by_cases hJk : (J : Int) = ak
              · have hn1 : ¬ 0 < an := by
                  rcases hne1 with h | h
                  · exact absurd hJk.symm h
                  · omega
                subst hJk
                have t2 : ((J : Int) == (J : Int)) = true := beq_self_eq_true _
                have t3 : decide (an < 1) = true := decide_eq_true (by omega)
                have t4 : decide (0 < an) = false := decide_eq_false (by omega)
                clear hne1 hn1 hlt hgx
                go_wp2_with fail
                go_roundw
                case rel => exact ⟨J + 1, by omega, by go_num, HB2.out, HB3.out, hK6⟩
                case measure => simp [intOf]; omega
              · have t2 : ((J : Int) == ak) = false := beq_eq_false_iff_ne.2 hJk
                clear hne1 hlt hgx
                go_wp2_with fail
                go_roundw
                case rel => exact ⟨J + 1, by omega, by go_num, HB2.out, HB3.out, hK6⟩
                case measure => simp [intOf]; omega
            · subst hk1
              have t2 : ((J : Int) == (J : Int)) = true := beq_self_eq_true _
              have t3 : decide (an < 1) = false := decide_eq_false (by omega)
              have t4 : decide (0 < an) = true := decide_eq_true (by omega)
              unfold addV at hyx
              have t0 : decide (y < x) = false := decide_eq_false (by split at hyx <;> omega)
              by_cases hmaxx : x < 18446744073709551615
              · have t5 : decide (x < 18446744073709551615) = true := decide_eq_true hmaxx
                have t6 : (x == y) = false := beq_eq_false_iff_ne.2 (by split at hyx <;> omega)
                clear hyx hn1 hlt hgx hmaxx
                go_wp2_with fail
                go_roundw
                case rel => exact ⟨J + 1, by omega, by go_num, HB2.out, HB3.out, hK6⟩
                case measure => simp [intOf]; omega
              · have t5 : decide (x < 18446744073709551615) = false := decide_eq_false hmaxx
                clear hyx hn1 hlt hgx hmaxx
                go_wp2_with fail
                go_roundw
                case rel => exact ⟨J + 1, by omega, by go_num, HB2.out, HB3.out, hK6⟩
                case measure => simp [intOf]; omega
          · have dJ : decide ((J : Int) < 17) = false := decide_eq_false (by omega)
            clear cell0 cell1
            go_wp2_with (first
              | (refine wpList_load_row rfl 28 (.tmp 8) rfl g rfl 28 (vC c1) (0, 0) _ HB3.out.out Tryd.underlying28 rfl Z1.out ?_)
              | (refine wpList_store_row rfl 28 (.tmp 6) (.tmp 117) rfl w2.heap.size (vC c1) rfl rfl 28 (vC c) HB2.out.out Z1.out (by rw [V1.out]; exact sizeC Hcok.out) O1.out ?_)
              | fail)
            go_roundw
            case rel => exact ⟨k + 1, c1, by omega, by go_num, Hc1ok.out, blk_row _ HB2.out, kept_row hK3 _ hK2.size⟩
            case measure => simp [intOf]; omega
      · have dn : decide ((k : Int) < (n : Int)) = false := decide_eq_false (by omega)
        go_wp2_with fail
        go_ret
        exact ⟨rfl, hK⟩
end Go.Proofs.YtapiffkeclnbbaaDoor.S
