import Derived.Test.YtapiffkeclnbbaaDoorProg
import Derived.Below
import Derived.Deep.Draws
import Derived.Deep.AppendLies
import Derived.Maps.AppendAt
import Derived.OwnWalk
import Derived.Laws.MakeOwn
import Derived.Laws.OwnMore
import Derived.Deep.OwnRows
import Derived.Tactics
import Derived.Laws.Slices
import Derived.WalkKit
import Derived.KernelRfl
import Derived.RowKit3
import Derived.Deep.LoopGhost
import Derived.Deep.QuietTactic
import Derived.BigQuiet
import Derived.WideLaws
import Derived.Deep.DeepCutAuto
import Derived.Deep.CutBlock
import Derived.Deep.RegionHeld3
import Derived.Deep.RegionWith
import Derived.Deep.RegionLaw
import Derived.Laws.Rows
import Derived.ArgAppend
import Derived.OrdersHeld
import Derived.Laws.BitsLemmas
import Derived.Laws.StructEq
import Derived.RowKit
import Derived.Lib.Hide
import Derived.Lib.SliceRun
import Derived.StillTail
import Derived.Laws.CopyOwn
import Derived.Test.YtapiffkeclnbbaaDoorB0
import Derived.Test.YtapiffkeclnbbaaDoorB1
import Derived.Test.YtapiffkeclnbbaaDoorB2
import Derived.Test.YtapiffkeclnbbaaDoorB3
import Derived.Test.YtapiffkeclnbbaaDoorB4
import Derived.Test.YtapiffkeclnbbaaDoorS1
import Derived.Test.YtapiffkeclnbbaaDoorS2
import Derived.Test.YtapiffkeclnbbaaDoorS3
import Derived.Test.YtapiffkeclnbbaaDoorS4
import Derived.Test.YtapiffkeclnbbaaDoorS5
import Derived.Test.YtapiffkeclnbbaaDoorS6
import Derived.Test.YtapiffkeclnbbaaDoorS7
/-! kedgelaw15.StatsRead. -/
set_option linter.unusedVariables false
set_option linter.unusedSimpArgs false
namespace Go.Proofs.YtapiffkeclnbbaaDoor.S
open Go.RowKit Go.Proofs.YtapiffkeclnbbaaDoor.B0
theorem and_mask (x m : Int) (h0 : 0 ≤ m) (h1 : m < 9223372036854775808) : 0 ≤ Go.bits .and .i64 x m ∧ Go.bits .and .i64 x m ≤ m := by
  have e : Go.bits .and .i64 x m = IntKind.i64.wrap ((BitVec.ofInt 64 x &&& BitVec.ofInt 64 m).toNat : Int) := rfl
  have hle : (BitVec.ofInt 64 x &&& BitVec.ofInt 64 m).toNat ≤ m.toNat := by
    rw [BitVec.toNat_and]
    refine Nat.le_trans Nat.and_le_right ?_
    rw [BitVec.toNat_ofInt]
    omega
  rw [e, IntKind.wrap_i64]
  generalize (BitVec.ofInt 64 x &&& BitVec.ofInt 64 m).toNat = r at hle
  omega
theorem mk17 (w : World) : (Instr.makeSlice 22 (.int .i64 17) (.int .i64 17)).run Tryd.prog w = .ok (.slice (some ⟨w.heap.size, 0, none⟩) 17 17) (w.alloc (.cells z17 25)) := by kernel_rfl
def c0R (p : Int) (i : Nat) : List Int := (List.replicate 17 0).set i p
theorem c0R_len (p : Int) (i : Nat) : (c0R p i).length = 17 := by simp [c0R]
theorem c0R_ok {p : Int} (hp : okU p) (i : Nat) : okC (c0R p i) := okC_set ⟨by simp, fun x hx => by rw [(List.mem_replicate.1 hx).2]; simp [okU]⟩ i hp
theorem newC_17 {c : List Int} (h : c.length = 17) : newC c = c := by
  unfold newC newTo
  rw [h]
  simp [List.take_of_length_le (Nat.le_of_eq h)]
theorem vC_c0R (p : Int) (i : Nat) : (z17.toList.set i (.int .u64 p)).toArray = vC (c0R p i) := by
  have h := vC_set (List.replicate 17 0) i p
  rw [← z17_vC] at h
  unfold c0R
  rw [← h, ← List.setIfInBounds_toArray]
def cR (p : Int) (i : Nat) (a b : Int) : List Int := bumpC (bumpC (c0R p i) i a) i b
theorem cR_get (p : Int) (i : Nat) (a b : Int) (hp : okU p) (hi : i < 17) (ha : 0 ≤ a ∧ a ≤ 16777215) (hb : 0 ≤ b ∧ b ≤ 16777215) (j : Int) (hj : isK j = true) :
    getC (cR p i a b) j = if j = i then (if 18446744073709551616 ≤ p + (a + b) then 18446744073709551615 else p + (a + b)) else 0 := by
  have hj2 : 0 ≤ j ∧ j < 17 := by simpa [isK] using hj
  have hik : isK (i : Int) = true := by simp [isK]; omega
  unfold okU at hp
  obtain ⟨J, rfl⟩ : ∃ J : Nat, j = (J : Int) := ⟨j.toNat, by omega⟩
  have hJ : J < 17 := by omega
  have e0 : ∀ (c : List Int) (x : Int), c.length = 17 → getC (bumpC c i x) J = if J = i ∧ 0 < x then addV (c[i]?.getD 0) x else getC c J := by
    intro c x hc
    unfold getC bumpC
    rw [if_pos hj, if_pos hj]
    simp only [Int.toNat_natCast]
    by_cases hx : 0 < x
    · rw [if_pos ⟨hik, hx⟩]
      by_cases hJi : J = i
      · subst hJi
        rw [if_pos ⟨rfl, hx⟩, List.getElem?_set_self (by omega)]
        rfl
      · rw [if_neg (fun h => hJi h.1), List.getElem?_set_ne (Ne.symm hJi)]
    · rw [if_neg (fun h => hx h.2), if_neg (fun h => hx h.2)]
  have hl0 := c0R_len p i
  have hl1 : (bumpC (c0R p i) i a).length = 17 := by unfold bumpC; split <;> simp [hl0]
  have g0 : getC (c0R p i) J = if J = i then p else 0 := by
    unfold getC c0R
    rw [if_pos hj]
    simp only [Int.toNat_natCast, List.getElem?_set]
    by_cases hJi : J = i
    · subst hJi; simp [hJ]
    · rw [if_neg (Ne.symm hJi), if_neg hJi, List.getElem?_replicate, if_pos hJ]; rfl
  have g1 : (c0R p i)[i]?.getD 0 = p := by unfold c0R; simp [hi]
  have g2 : (bumpC (c0R p i) i a)[i]?.getD 0 = addV p a := by
    unfold bumpC
    simp only [Int.toNat_natCast, g1]
    split
    · rw [List.getElem?_set_self (by omega)]; rfl
    · rename_i h
      rw [g1]
      have : a = 0 := by
        have : ¬ 0 < a := fun h' => h ⟨hik, h'⟩
        omega
      subst this
      unfold addV
      split <;> omega
  unfold cR
  rw [e0 _ _ hl1, e0 _ _ hl0, g0, g1, g2]
  by_cases hJi : J = i
  · subst hJi
    simp only [true_and, if_true]
    unfold addV
    split <;> split <;> (try split) <;> (try split) <;> omega
  · have hne : ¬ ((J : Int) = (i : Int)) := by omega
    rw [if_neg (fun h => hJi h.1), if_neg (fun h => hJi h.1), if_neg hJi, if_neg hne]
theorem cR_ok (p : Int) (i : Nat) (a b : Int) (hp : okU p) (ha : 0 ≤ a ∧ a ≤ 16777215) (hb : 0 ≤ b ∧ b ≤ 16777215) : okC (cR p i a b) := okC_bump (okC_bump (c0R_ok hp i) _ _ (by omega)) _ _ (by omega)
theorem getC_out (c : List Int) {k : Int} (h : isK k = false) : getC c k = 0 := by simp [getC, h]
set_option maxHeartbeats 1000000 in
set_option maxRecDepth 100000 in
theorem law_StatsRead (p k n m : Int) (hp : okU p) (w : World) (hsp : Sp w) : Calls Tryd.prog 5 #[.int .u64 p, .int .i64 k, .int .i64 n, .int .i64 m] w fun e w' => e = .returned (.bool true) ∧ Kept w w' := by
  have hu := Tryd.underlying28
  have hmk := mk17
  unfold z17 at hmk
  obtain ⟨ai, hai⟩ : ∃ ai, Go.bits .and .i64 k 65535 = ai := ⟨_, rfl⟩
  obtain ⟨a, ha⟩ : ∃ a, Go.bits .and .i64 n 16777215 = a := ⟨_, rfl⟩
  obtain ⟨b, hb⟩ : ∃ b, Go.bits .and .i64 m 16777215 = b := ⟨_, rfl⟩
  have ra := and_mask n 16777215 (by omega) (by omega)
  have rb := and_mask m 16777215 (by omega) (by omega)
  have ri := and_mask k 65535 (by omega) (by omega)
  rw [ha] at ra
  rw [hb] at rb
  rw [hai] at ri
  have ht : ai.tmod 17 = ai % 17 := by rw [Int.tmod_eq_emod_of_nonneg ri.1]
  obtain ⟨i, hi⟩ : ∃ i : Nat, ai % 17 = (i : Int) := ⟨(ai % 17).toNat, by omega⟩
  have hi17 : i < 17 := by omega
  rw [hi] at ht
  go_enter Tryd.func5, Tryd.ntmps5
  go_wp2_with fail
  refine (law_awake w hsp).mono ?_
  rintro e w1 ⟨rfl, hk1⟩
  go_wp2_with fail
  have h0k := c0R_ok hp i
  have hr1 : ∀ W : World, Ri (W.alloc (.cells (z17.toList.set i (.int .u64 p)).toArray 25)) (W.alloc (.cells (z17.toList.set i (.int .u64 p)).toArray 25)).heap.size .u64 (some ⟨W.heap.size, 0, none⟩) (c0R p i) := fun W =>
    .inr ⟨W.heap.size, 0, rfl, by simp, fun j x hx => by
      have h := (Blk.new W 25 (z17.toList.set i (.int .u64 p)).toArray).cell (0 + j)
      rw [h, vC_c0R, Nat.zero_add, vC_get _ _ (List.getElem?_eq_some_iff.1 hx).1, hx]
      rfl⟩
  refine (stats_New _ 17 17 (c0R p i) (c0R_len p i) _ (hr1 w1)).mono ?_
  rintro e w2 ⟨rfl, hk2⟩
  rw [newC_17 (c0R_len p i)]
  have hK2 := (hk1.alloc _).call hk2.out
  clear hk2
  go_wp2_with fail
  refine (stats_Bump _ i a h0k (by omega) _).mono ?_
  rintro e w3 ⟨rfl, hk3⟩
  have hK3 := hK2.call hk3.out
  clear hk3
  have h1k := okC_bump h0k i a (by omega)
  go_wp2_with fail
  refine (stats_Bump _ i b h1k (by omega) _).mono ?_
  rintro e w4 ⟨rfl, hk4⟩
  have hK4 := hK3.call hk4.out
  clear hk4 h1k h0k hr1
  have hcr := cR_ok p i a b hp ra rb
  have hgt := cR_get p i a b hp hi17 ra rb
  rw [show bumpC (bumpC (c0R p i) ↑i a) ↑i b = cR p i a b from rfl]
  obtain ⟨c, hc⟩ : ∃ c, cR p i a b = c := ⟨_, rfl⟩
  rw [hc] at hcr hgt ⊢
  have S1 := Lib.hid (size28 (sizeC hcr))
  have Z1 := Lib.hid (sizeC hcr)
  have O1 := Lib.hid (vC_one c)
  have Hgt := Lib.hid hgt
  have Hcr := Lib.hid hcr
  unfold okU at hp
  obtain ⟨W, hW⟩ : ∃ W : Int, (if 18446744073709551616 ≤ p + (a + b) then 18446744073709551615 else p + (a + b)) = W := ⟨_, rfl⟩
  have HW := Lib.hid hW
  have hwr : IntKind.u64.wrap (a + b) = a + b := by rw [wrap_u64]; omega
  have hww : IntKind.u64.wrap (p + (a + b)) = (p + (a + b)) % 18446744073709551616 := wrap_u64 _
  clear hgt hcr hc hW hai ha hb ht hi hmk
  by_cases hov : 18446744073709551616 ≤ p + (a + b)
  · have hmod : (p + (a + b)) % 18446744073709551616 < p := by omega
    have HOV := Lib.hid hov
    clear hov
    go_wp2_with (first
      | (refine wpList_store_row rfl 28 (.tmp 14) (.tmp 37) rfl w4.heap.size (vC c) rfl rfl 28 z17 (Blk.new w4 _ _).out S1.out (by rw [Z1.out]; rfl) O1.out ?_)
      | fail)
    clear hww hwr
    go_loopw [16] (fun j wr => ∃ J : Nat, J ≤ 17 ∧ j = .int .i64 J ∧ Blk wr w4.heap.size 28 (vC c) ∧ Kept w wr)
      (fun j _ => 17 - (intOf j).toNat)
    case atStart => exact ⟨0, Nat.zero_le _, rfl, blk_row _ (Blk.new w4 _ _), kept_row (hK4.alloc _) _ hK4.size⟩
    case round =>
      obtain ⟨J, hJ, rfl, B, hK⟩ := hrel
      have HB := Lib.hid B
      clear B
      by_cases hlt : J < 17
      · have hjk : isK (J : Int) = true := by simp [isK]; omega
        have d0 : decide ((J : Int) < 17) = true := decide_eq_true (by omega)
        by_cases hJi : J = i
        · subst hJi
          have hjk := Lib.hid hjk
          go_wp2_with fail
          go_roundw
          case rel => exact ⟨J + 1, by omega, by go_num, HB.out, hK⟩
          case measure => simp [intOf]; omega
        · have hne : ¬ ((J : Int) = (i : Int)) := by omega
          have d1 : ((J : Int) == (i : Int)) = false := beq_eq_false_iff_ne.2 hne
          have hg0 : getC c J = 0 := by rw [Hgt.out J hjk, if_neg hne]
          have HG := Lib.hid hg0
          have hjk := Lib.hid hjk
          clear hg0
          go_wp2_with (first
            | (refine wpList_load_g 28 (.tmp 14) rfl w4.heap.size rfl ?_ HB.out Tryd.underlying28 S1.out ?_)
            | fail)
          refine (stats_Get c J Hcr.out _).mono ?_
          rintro e w5 ⟨rfl, hb5⟩
          rw [HG.out]
          have HB5 := Lib.hid (HB.out.call hb5.out)
          have hK5 := hK.call hb5.out
          clear hb5
          go_wp2_with fail
          go_roundw
          case rel => exact ⟨J + 1, by omega, by go_num, HB5.out, hK5⟩
          case measure => simp [intOf]; omega
      · have d0 : decide ((J : Int) < 17) = false := decide_eq_false (by omega)
        have hgi : getC c i = 18446744073709551615 := by
          rw [Hgt.out i (by simp [isK]; omega), if_pos rfl, if_pos HOV.out]
        have Hgi := Lib.hid hgi
        clear hgi
        go_wp2_with (first
          | (refine wpList_load_g 28 (.tmp 14) rfl w4.heap.size rfl ?_ HB.out Tryd.underlying28 S1.out ?_)
          | fail)
        refine (stats_Get c i Hcr.out _).mono ?_
        rintro e w5 ⟨rfl, hb5⟩
        rw [Hgi.out]
        have HB5 := Lib.hid (HB.out.call hb5.out)
        have hK5 := hK.call hb5.out
        clear hb5
        go_wp2_with (first
          | (refine wpList_load_g 28 (.tmp 14) rfl w4.heap.size rfl ?_ HB5.out Tryd.underlying28 S1.out ?_)
          | fail)
        refine (stats_Get c (-1) Hcr.out _).mono ?_
        rintro e w6 ⟨rfl, hb6⟩
        rw [getC_out c rfl]
        have HB6 := Lib.hid (HB5.out.call hb6.out)
        have hK6 := hK5.call hb6.out
        clear hb6
        go_wp2_with (first
          | (refine wpList_load_g 28 (.tmp 14) rfl w4.heap.size rfl ?_ HB6.out Tryd.underlying28 S1.out ?_)
          | fail)
        refine (stats_Get c 17 Hcr.out _).mono ?_
        rintro e w7 ⟨rfl, hb7⟩
        rw [getC_out c rfl]
        have hK7 := hK6.call hb7.out
        clear hb7
        go_wp2_with fail
        go_ret
        exact ⟨rfl, hK7⟩
  · have hmod : ¬ (p + (a + b)) % 18446744073709551616 < p := by omega
    have HOV := Lib.hid hov
    have hmd : (p + (a + b)) % 18446744073709551616 = p + (a + b) := by omega
    have HMD := Lib.hid hmd
    clear hov hmd
    go_wp2_with (first
      | (refine wpList_store_row rfl 28 (.tmp 14) (.tmp 37) rfl w4.heap.size (vC c) rfl rfl 28 z17 (Blk.new w4 _ _).out S1.out (by rw [Z1.out]; rfl) O1.out ?_)
      | fail)
    clear hww hwr
    go_loopw [16] (fun j wr => ∃ J : Nat, J ≤ 17 ∧ j = .int .i64 J ∧ Blk wr w4.heap.size 28 (vC c) ∧ Kept w wr)
      (fun j _ => 17 - (intOf j).toNat)
    case atStart => exact ⟨0, Nat.zero_le _, rfl, blk_row _ (Blk.new w4 _ _), kept_row (hK4.alloc _) _ hK4.size⟩
    case round =>
      obtain ⟨J, hJ, rfl, B, hK⟩ := hrel
      have HB := Lib.hid B
      clear B
      by_cases hlt : J < 17
      · have hjk : isK (J : Int) = true := by simp [isK]; omega
        have d0 : decide ((J : Int) < 17) = true := decide_eq_true (by omega)
        by_cases hJi : J = i
        · subst hJi
          have hjk := Lib.hid hjk
          go_wp2_with fail
          go_roundw
          case rel => exact ⟨J + 1, by omega, by go_num, HB.out, hK⟩
          case measure => simp [intOf]; omega
        · have hne : ¬ ((J : Int) = (i : Int)) := by omega
          have d1 : ((J : Int) == (i : Int)) = false := beq_eq_false_iff_ne.2 hne
          have hg0 : getC c J = 0 := by rw [Hgt.out J hjk, if_neg hne]
          have HG := Lib.hid hg0
          have hjk := Lib.hid hjk
          clear hg0
          go_wp2_with (first
            | (refine wpList_load_g 28 (.tmp 14) rfl w4.heap.size rfl ?_ HB.out Tryd.underlying28 S1.out ?_)
            | fail)
          refine (stats_Get c J Hcr.out _).mono ?_
          rintro e w5 ⟨rfl, hb5⟩
          rw [HG.out]
          have HB5 := Lib.hid (HB.out.call hb5.out)
          have hK5 := hK.call hb5.out
          clear hb5
          go_wp2_with fail
          go_roundw
          case rel => exact ⟨J + 1, by omega, by go_num, HB5.out, hK5⟩
          case measure => simp [intOf]; omega
      · have d0 : decide ((J : Int) < 17) = false := decide_eq_false (by omega)
        have hgi : getC c i = (p + (a + b)) % 18446744073709551616 := by
          rw [Hgt.out i (by simp [isK]; omega), if_pos rfl, if_neg (Int.not_le.2 HOV.out), HMD.out]
        have Hgi := Lib.hid hgi
        clear hgi
        go_wp2_with (first
          | (refine wpList_load_g 28 (.tmp 14) rfl w4.heap.size rfl ?_ HB.out Tryd.underlying28 S1.out ?_)
          | fail)
        refine (stats_Get c i Hcr.out _).mono ?_
        rintro e w5 ⟨rfl, hb5⟩
        rw [Hgi.out]
        have HB5 := Lib.hid (HB.out.call hb5.out)
        have hK5 := hK.call hb5.out
        clear hb5
        go_wp2_with (first
          | (refine wpList_load_g 28 (.tmp 14) rfl w4.heap.size rfl ?_ HB5.out Tryd.underlying28 S1.out ?_)
          | fail)
        refine (stats_Get c (-1) Hcr.out _).mono ?_
        rintro e w6 ⟨rfl, hb6⟩
        rw [getC_out c rfl]
        have HB6 := Lib.hid (HB5.out.call hb6.out)
        have hK6 := hK5.call hb6.out
        clear hb6
        go_wp2_with (first
          | (refine wpList_load_g 28 (.tmp 14) rfl w4.heap.size rfl ?_ HB6.out Tryd.underlying28 S1.out ?_)
          | fail)
        refine (stats_Get c 17 Hcr.out _).mono ?_
        rintro e w7 ⟨rfl, hb7⟩
        rw [getC_out c rfl]
        have hK7 := hK6.call hb7.out
        clear hb7
        go_wp2_with fail
        go_ret
        exact ⟨rfl, hK7⟩
end Go.Proofs.YtapiffkeclnbbaaDoor.S
