import Derived.Test.YtapiffkeclnbbaaDoorProg
import Derived.Below
import Derived.Deep.Draws
import Derived.Deep.AppendLies
import Derived.Maps.AppendAt
import Derived.OwnWalk
import Derived.Laws.MakeOwn
import Derived.Laws.OwnMore
import Derived.Deep.OwnRows
import Derived.Tactics
import Derived.Laws.Slices
import Derived.WalkKit
import Derived.KernelRfl
import Derived.RowKit3
import Derived.Deep.LoopGhost
import Derived.Deep.QuietTactic
import Derived.BigQuiet
import Derived.WideLaws
import Derived.Deep.DeepCutAuto
import Derived.Deep.CutBlock
import Derived.Deep.RegionHeld3
import Derived.Deep.RegionWith
import Derived.Deep.RegionLaw
import Derived.Laws.Rows
import Derived.ArgAppend
import Derived.OrdersHeld
import Derived.Laws.BitsLemmas
import Derived.Laws.StructEq
import Derived.RowKit
import Derived.Lib.Hide
import Derived.Lib.SliceRun
import Derived.StillTail
import Derived.Laws.CopyOwn
import Derived.Test.YtapiffkeclnbbaaDoorB0
import Derived.Test.YtapiffkeclnbbaaDoorB1
import Derived.Test.YtapiffkeclnbbaaDoorB2
import Derived.Test.YtapiffkeclnbbaaDoorB3
import Derived.Test.YtapiffkeclnbbaaDoorB4
import Derived.Test.YtapiffkeclnbbaaDoorB5
import Derived.Test.YtapiffkeclnbbaaDoorB7
import Derived.Test.YtapiffkeclnbbaaDoorB8
import Derived.Test.YtapiffkeclnbbaaDoorS1
import Derived.Test.YtapiffkeclnbbaaDoorS2
import Derived.Test.YtapiffkeclnbbaaDoorS3
import Derived.Test.YtapiffkeclnbbaaDoorS4
import Derived.Test.YtapiffkeclnbbaaDoorS5
import Derived.Test.YtapiffkeclnbbaaDoorS6
import Derived.Test.YtapiffkeclnbbaaDoorS7
import Derived.Test.YtapiffkeclnbbaaDoorS8
import Derived.Test.YtapiffkeclnbbaaDoorT1
import Derived.Test.YtapiffkeclnbbaaDoorS9
/-! kedgelaw15.StatsOrder. -/
set_option linter.unusedVariables false
set_option linter.unusedSimpArgs false
namespace Go.Proofs.YtapiffkeclnbbaaDoor.S
open Go.RowKit Go.Proofs.YtapiffkeclnbbaaDoor.B0
attribute [local irreducible] wpQuiet wpHq
/-- what a row of things makes of counts -/
def bumps (c : List Int) (l : List ActV) : List Int := l.foldl (fun c a => bumpC c a.k a.n) c
theorem bumpC_len (c : List Int) (k n : Int) : (bumpC c k n).length = c.length := by unfold bumpC; split <;> simp
theorem bumps_ok : ∀ (l : List ActV) {c : List Int}, okC c → (∀ a ∈ l, a.n < 9223372036854775808) → okC (bumps c l)
  | [], _, h, _ => h
  | a :: l, _, h, hl => bumps_ok l (okC_bump h a.k a.n (hl a (by simp))) fun b hb => hl b (by simp [hb])
theorem bumps_succ (c : List Int) (l : List ActV) (i : Nat) (a : ActV) (h : l[i]? = some a) : bumps c (l.take (i + 1)) = bumpC (bumps c (l.take i)) a.k a.n := by
  unfold bumps
  rw [List.take_add_one, h]
  simp only [Option.toList_some, List.foldl_append, List.foldl_cons, List.foldl_nil]
theorem addV_comm3 {x y z : Int} (hx : okU x) (hy : 0 < y) (hz : 0 < z) : addV (addV x y) z = addV (addV x z) y := by
  unfold okU at hx
  unfold addV
  repeat' split
  all_goals omega
theorem bump_comm (c : List Int) (hc : okC c) (k n k' n' : Int) (hn : n < 9223372036854775808) (hn' : n' < 9223372036854775808) : bumpC (bumpC c k n) k' n' = bumpC (bumpC c k' n') k n := by
  by_cases h : isK k = true ∧ 0 < n
  · by_cases h' : isK k' = true ∧ 0 < n'
    · have e1 : bumpC c k n = c.set k.toNat (addV (c[k.toNat]?.getD 0) n) := if_pos h
      have e2 : bumpC c k' n' = c.set k'.toNat (addV (c[k'.toNat]?.getD 0) n') := if_pos h'
      have r1 : 0 ≤ k ∧ k < 17 := by simpa [isK] using h.1
      have r2 : 0 ≤ k' ∧ k' < 17 := by simpa [isK] using h'.1
      rw [e1, e2]
      unfold bumpC
      rw [if_pos h, if_pos h']
      by_cases hk : k.toNat = k'.toNat
      · rw [hk, List.getElem?_set_self (by rw [hc.1]; omega), List.getElem?_set_self (by rw [hc.1]; omega), List.set_set, List.set_set]
        simp only [Option.getD_some]
        rw [addV_comm3 (okC_get hc _) h.2 h'.2]
      · rw [List.getElem?_set_ne hk, List.getElem?_set_ne (Ne.symm hk), List.set_comm _ _ hk]
    · have e2 : ∀ c, bumpC c k' n' = c := fun c => if_neg h'
      rw [e2, e2]
  · have e1 : ∀ c, bumpC c k n = c := fun c => if_neg h
    rw [e1, e1]
theorem bumps_bump : ∀ (l : List ActV) (c : List Int), okC c → (∀ a ∈ l, a.n < 9223372036854775808) → ∀ k n, n < 9223372036854775808 → bumps (bumpC c k n) l = bumpC (bumps c l) k n
  | [], _, _, _, _, _, _ => rfl
  | a :: l, c, hc, hl, k, n, hn => by
    show bumps (bumpC (bumpC c k n) a.k a.n) l = bumpC (bumps (bumpC c a.k a.n) l) k n
    rw [bump_comm c hc k n a.k a.n hn (hl a (by simp))]
    exact bumps_bump l _ (okC_bump hc _ _ (hl a (by simp))) (fun b hb => hl b (by simp [hb])) k n hn
theorem bumps_reverse : ∀ (l : List ActV) (c : List Int), okC c → (∀ a ∈ l, a.n < 9223372036854775808) → bumps c l.reverse = bumps c l
  | [], _, _, _ => rfl
  | a :: l, c, hc, hl => by
    have hl' : ∀ b ∈ l, b.n < 9223372036854775808 := fun b hb => hl b (by simp [hb])
    have e : bumps c (l.reverse ++ [a]) = bumpC (bumps c l.reverse) a.k a.n := by unfold bumps; simp only [List.foldl_append, List.foldl_cons, List.foldl_nil]
    rw [List.reverse_cons, e, bumps_reverse l c hc hl', ← bumps_bump l c hc hl' a.k a.n (hl a (by simp))]
    rfl
def bump1 (c : List Int) (k : Int) : Nat → List Int
  | 0 => c
  | m + 1 => bumpC (bump1 c k m) k 1
theorem bump1_is (c : List Int) (hc : okC c) (k : Int) : ∀ m : Nat, bump1 c k m = bumpC c k m ∧ okC (bump1 c k m)
  | 0 => ⟨(if_neg (fun h => by have := h.2; simp at this)).symm, hc⟩
  | m + 1 => by
    obtain ⟨e, ho⟩ := bump1_is c hc k m
    refine ⟨?_, okC_bump ho k 1 (by omega)⟩
    show bumpC (bump1 c k m) k 1 = _
    rw [e]
    by_cases hk : isK k = true
    · have r1 : 0 ≤ k ∧ k < 17 := by simpa [isK] using hk
      have hx := okC_get hc k.toNat
      unfold okU at hx
      have e3 : bumpC c k ((m + 1 : Nat) : Int) = c.set k.toNat (addV (c[k.toNat]?.getD 0) ((m + 1 : Nat) : Int)) := if_pos ⟨hk, by omega⟩
      rw [e3]
      by_cases hm : m = 0
      · subst hm
        have e0 : bumpC c k ((0 : Nat) : Int) = c := if_neg (fun h => by have := h.2; simp at this)
        rw [e0]
        exact if_pos ⟨hk, by omega⟩
      · have e4 : bumpC c k (m : Int) = c.set k.toNat (addV (c[k.toNat]?.getD 0) (m : Int)) := if_pos ⟨hk, by omega⟩
        rw [e4]
        unfold bumpC
        rw [if_pos ⟨hk, by omega⟩, List.getElem?_set_self (by rw [hc.1]; omega), List.set_set]
        congr 1
        simp only [Option.getD_some]
        unfold addV
        repeat' split
        all_goals omega
    · have e5 : ∀ c n, bumpC c k n = c := fun c n => if_neg (fun h => hk h.1)
      rw [e5, e5, e5]
set_option maxHeartbeats 4000000 in
set_option maxRecDepth 100000 in
theorem law_StatsOrder (A0 : Option Addr) (n0 cap0 : Nat) (xs : List Int) (hn0 : xs.length = n0) (hx : ∀ x ∈ xs, okU x) (A : Option Addr) (n cap : Nat) (l : List ActV) (hn : l.length = n) (hnc : n ≤ cap) (hmx : n ≤ 9223372036854775807) (hl : ∀ a ∈ l, a.n < 9223372036854775808) (kk nn : Int) (w : World) (hsp : Sp w)
    (hr0 : Ri w w.heap.size .u64 A0 xs) (hr : Rd w w.heap.size 2 encAct A l) : Calls Tryd.prog 4 #[.slice A0 n0 cap0, .slice A n cap, .int .i64 kk, .int .i64 nn] w fun e w' => e = .returned (.bool true) ∧ Kept w w' := by
  have hu := Tryd.underlying28
  have Hn := Lib.hid hn
  have Hn0 := Lib.hid hn0
  clear hn hn0
  by_cases hbig : (100 < n0 ∨ 200 < n)
  · rcases Nat.lt_or_ge 100 n0 with h0 | h0
    · have d0 : decide ((100 : Int) < (n0 : Int)) = true := decide_eq_true (by omega)
      have hbig := Lib.hid hbig
      clear h0
      go_enter Tryd.func4, Tryd.ntmps4
      go_wp2_with fail
      refine (law_awake w hsp).mono ?_
      rintro e w1 ⟨rfl, hk1⟩
      go_wp2_with fail
      go_ret
      exact ⟨rfl, hk1⟩
    · have d0 : decide ((100 : Int) < (n0 : Int)) = false := decide_eq_false (by omega)
      have d1 : decide ((200 : Int) < (n : Int)) = true := decide_eq_true (by omega)
      have hbig := Lib.hid hbig
      have h0 := Lib.hid h0
      go_enter Tryd.func4, Tryd.ntmps4
      go_wp2_with fail
      refine (law_awake w hsp).mono ?_
      rintro e w1 ⟨rfl, hk1⟩
      go_wp2_with fail
      go_ret
      exact ⟨rfl, hk1⟩
  · have hb0 : n0 ≤ 100 := by omega
    have hb1 : n ≤ 200 := by omega
    have d0 : decide ((100 : Int) < (n0 : Int)) = false := decide_eq_false (by omega)
    have d1 : decide ((200 : Int) < (n : Int)) = false := decide_eq_false (by omega)
    clear hbig
    obtain ⟨mI, hmI⟩ : ∃ mI, Go.bits .and .i64 nn 63 = mI := ⟨_, rfl⟩
    have hmb := and_mask nn 63 (by omega) (by omega)
    rw [hmI] at hmb
    obtain ⟨m, rfl⟩ : ∃ m : Nat, mI = (m : Int) := ⟨mI.toNat, by omega⟩
    have hm63 : m ≤ 63 := by omega
    clear hmb
    go_enter Tryd.func4, Tryd.ntmps4
    go_wp2_with fail
    refine (law_awake w hsp).mono ?_
    rintro e w1 ⟨rfl, hk1⟩
    go_wp2_with fail
    have hr1 : Ri w1 w1.heap.size .u64 A0 xs := by
      have h := hr0.below hk1.out
      rcases h with h | ⟨b, off, e, hlt, hc⟩
      · exact .inl h
      · exact .inr ⟨b, off, e, Nat.lt_of_lt_of_le hlt hk1.size, hc⟩
    refine (stats_New _ n0 cap0 xs Hn0.out _ hr1).mono ?_
    rintro e w2 ⟨rfl, hk2⟩
    have hK2 := hk1.call hk2.out
    clear hk2 hk1 hr1
    have hc0 := okC_new hx
    obtain ⟨c0, hc0e⟩ : ∃ c0, newC xs = c0 := ⟨_, rfl⟩
    rw [hc0e] at hc0 ⊢
    have Hc0 := Lib.hid hc0
    have Z0 := Lib.hid (size28 (sizeC hc0))
    have O0 := Lib.hid (vC_one c0)
    have V0 := Lib.hid (sizeC hc0)
    clear hc0 hc0e
    go_wp2_with (first
      | (refine wpList_store_blk 28 (.tmp 10) (.tmp 27) rfl rfl w2.heap.size (vC c0) rfl rfl (Blk.new w2 28 z17) Z0.out (by rw [V0.out]; rfl) O0.out ?_; intro W2 BA hf1 hf2 hz2; have hKA := hf2 w (hK2.alloc _) hK2.size; clear hf1 hf2 hz2)
      | (refine wpList_load_blk 28 (.tmp 10) rfl w2.heap.size rfl rfl BA.out Tryd.underlying28 Z0.out ?_)
      | (refine wpList_store_blk 28 (.tmp 11) (.tmp 28) rfl rfl W2.heap.size (vC c0) rfl rfl (Blk.new W2 28 z17) Z0.out (by rw [V0.out]; rfl) O0.out ?_; intro W3 BB hg3 hf3 hz3; have BA3 := Lib.hid (hg3 _ _ _ (Nat.ne_of_lt BA.out.lt) (BA.out.alloc _)); have hKB := hf3 w (hKA.alloc _) hKA.size; clear hf3 hg3 hz3))
    have hgab := BA.out.lt
    obtain ⟨gb, hgb⟩ : ∃ gb, W2.heap.size = gb := ⟨_, rfl⟩
    rw [hgb] at hgab BB ⊢
    have hwa : w.heap.size ≤ w2.heap.size := hK2.size
    clear hKA BA
    go_loopw [12] (fun i wr => ∃ (k : Nat), k ≤ n ∧ i = .int .i64 k ∧ Blk wr w2.heap.size 28 (vC (bumps c0 (l.take k))) ∧ Blk wr gb 28 (vC (bumps c0 (l.reverse.take k))) ∧ Kept w wr)
      (fun i _ => n - (intOf i).toNat)
    case atStart => exact ⟨0, Nat.zero_le _, rfl, BA3.out, BB.out, hKB⟩
    case round =>
      obtain ⟨k, hk, rfl, B, B', hK⟩ := hrel
      by_cases hlt : k < n
      · have hlx : k < l.length := by rw [Hn.out]; exact hlt
        have hlx2 : n - 1 - k < l.length := by rw [Hn.out]; omega
        obtain ⟨b, off, rfl, hb, hcs⟩ := hr.get hlx
        obtain ⟨b', off', hbe, hb2, hcs2⟩ := hr.get hlx2
        obtain ⟨rfl, rfl⟩ : b' = b ∧ off' = off := by injection hbe with hbe; injection hbe with h1 h2; exact ⟨h1.symm, h2.symm⟩
        clear hbe hb2
        obtain ⟨a, ha⟩ : ∃ a, l[k] = a := ⟨_, rfl⟩
        obtain ⟨a2, ha2⟩ : ∃ a2, l[n - 1 - k] = a2 := ⟨_, rfl⟩
        have Hal : Hid (a.n < 9223372036854775808) := Lib.hid (ha ▸ hl _ (List.getElem_mem hlx))
        have Hal2 : Hid (a2.n < 9223372036854775808) := Lib.hid (ha2 ▸ hl _ (List.getElem_mem hlx2))
        have hs1 := bumps_succ c0 l k a (by rw [List.getElem?_eq_getElem hlx, ha])
        have hs2 := bumps_succ c0 l.reverse k a2 (by rw [List.getElem?_reverse hlx, Hn.out, List.getElem?_eq_getElem hlx2, ha2])
        rw [ha] at hcs
        rw [ha2] at hcs2
        have hca : okC (bumps c0 (l.take k)) := bumps_ok _ Hc0.out fun a ha => hl a (List.mem_of_mem_take ha)
        have hcb : okC (bumps c0 (l.reverse.take k)) := bumps_ok _ Hc0.out fun a ha => hl a (List.mem_reverse.1 (List.mem_of_mem_take ha))
        obtain ⟨ca, hcae⟩ : ∃ ca, bumps c0 (l.take k) = ca := ⟨_, rfl⟩
        obtain ⟨cb, hcbe⟩ : ∃ cb, bumps c0 (l.reverse.take k) = cb := ⟨_, rfl⟩
        rw [hcae] at hs1 hca B
        rw [hcbe] at hs2 hcb B'
        have hca1 := okC_bump hca a.k a.n Hal.out
        have hcb1 := okC_bump hcb a2.k a2.n Hal2.out
        rw [← hs1] at hca1
        rw [← hs2] at hcb1
        obtain ⟨ca1, hca1e⟩ : ∃ ca1, bumps c0 (l.take (k + 1)) = ca1 := ⟨_, rfl⟩
        obtain ⟨cb1, hcb1e⟩ : ∃ cb1, bumps c0 (l.reverse.take (k + 1)) = cb1 := ⟨_, rfl⟩
        rw [hca1e] at hs1 hca1
        rw [hcb1e] at hs2 hcb1
        have Hs1 := Lib.hid hs1
        have Hs2 := Lib.hid hs2
        have HEA := Lib.hid hca1e
        have HEB := Lib.hid hcb1e
        have Hca := Lib.hid hca
        have Hcb := Lib.hid hcb
        have Zca := Lib.hid (size28 (sizeC hca))
        have Zcb := Lib.hid (size28 (sizeC hcb))
        have Zca1 := Lib.hid (size28 (sizeC hca1))
        have Zcb1 := Lib.hid (size28 (sizeC hcb1))
        have Oca1 := Lib.hid (vC_one ca1)
        have Ocb1 := Lib.hid (vC_one cb1)
        have Vca := Lib.hid ((sizeC hca).trans (sizeC hca1).symm)
        have Vcb := Lib.hid ((sizeC hcb).trans (sizeC hcb1).symm)
        have HB := Lib.hid B
        have HB' := Lib.hid B'
        clear ha ha2 hs1 hs2 hca hcb hcae hcbe hca1 hcb1 hca1e hcb1e B B'
        have hk0 : (0 : Int) ≤ (k : Int) := by omega
        have hkl : (k : Int) < (n : Int) := by omega
        have hk2 : (0 : Int) ≤ (n : Int) - 1 - (k : Int) := by omega
        have hk3 : (n : Int) - 1 - (k : Int) < (n : Int) := by omega
        have hkt : ((n : Int) - 1 - (k : Int)).toNat = n - 1 - k := by omega
        have cell0 := fun (W : World) (h : Kept w W) => (h.out.cell (p := ⟨b', off' + k * 2, none⟩) hb).trans (hcs 0 _ rfl)
        have cell1 := fun (W : World) (h : Kept w W) => (h.out.cell (p := ⟨b', off' + k * 2 + 1, none⟩) hb).trans (hcs 1 _ rfl)
        have cell2 := fun (W : World) (h : Kept w W) => (h.out.cell (p := ⟨b', off' + (n - 1 - k) * 2, none⟩) hb).trans (hcs2 0 _ rfl)
        have cell3 := fun (W : World) (h : Kept w W) => (h.out.cell (p := ⟨b', off' + (n - 1 - k) * 2 + 1, none⟩) hb).trans (hcs2 1 _ rfl)
        have hkt' := Lib.hid hkt
        clear hkt
        have hk4 : (k : Int) ≤ (n : Int) - 1 := by omega
        have hw1 : IntKind.i64.wrap ((n : Int) - 1) = (n : Int) - 1 := by rw [IntKind.wrap_i64]; omega
        have hw2 : IntKind.i64.wrap ((n : Int) - 1 - (k : Int)) = (n : Int) - 1 - (k : Int) := by rw [IntKind.wrap_i64]; omega
        go_wp2_with fail
        refine wp_region_qtail 12 (C := fun W' => Blk W' w2.heap.size 28 (vC ca) ∧ Blk W' gb 28 (vC cb) ∧ Kept w W') (by kernel_rfl) (by kernel_rfl) ⟨HB.out.drew, HB'.out.drew, hK.drew⟩ ?_
        go_simp
        repeat (first
          | (apply q_val; rfl; (intro W hC; exact exec_load_row 28 (.tmp 10) rfl w2.heap.size rfl hC.1 Tryd.underlying28 Zca.out); go_simp)
          | (apply q_val; rfl; (intro W hC; have k0 := cell0 W hC.2.2; have k1 := cell1 W hC.2.2; clear hC; go_simp; rfl); go_simp)
          | (refine q_off rfl ?_; go_simp)
          | (apply q_call (f := 10) (v := .agg (vC ca1)); rfl; (intro W hC; go_simp; rfl); (intro W hC; (with_reducible refine (stats_Bump ca a.k a.n Hca.out Hal.out _).mono ?_); rintro e w1 ⟨rfl, hb1⟩; exact ⟨by rw [Hs1.out], hC.1.call hb1.out, hC.2.1.call hb1.out, hC.2.2.call hb1.out⟩); go_simp))
        refine q_end ?_
        intro W1 B1 B2 hK1
        have HB1 := Lib.hid B1
        have HB2 := Lib.hid B2
        clear B1 B2
        go_wp2_with (first
          | (refine wpList_store_blk 28 (.tmp 10) (.tmp 46) rfl rfl w2.heap.size (vC ca1) rfl rfl HB1.out Zca1.out Vca.out Oca1.out ?_; intro W4 BA4 hg4 hf4 hz4; have BB4 := Lib.hid (hg4 _ _ _ (Nat.ne_of_gt hgab) HB2.out); have hK4 := hf4 w hK1 hwa; clear hf4 hg4 hz4)
          | fail)
        have cell2' := fun (W : World) (h : Kept w W) => (show W.cell? ⟨b', off' + ((n : Int) - 1 - (k : Int)).toNat * 2, none⟩ = some (.int .i64 a2.k) by rw [hkt'.out]; exact cell2 W h)
        have cell3' := fun (W : World) (h : Kept w W) => (show W.cell? ⟨b', off' + ((n : Int) - 1 - (k : Int)).toNat * 2 + 1, none⟩ = some (.int .i64 a2.n) by rw [hkt'.out]; exact cell3 W h)
        refine wp_region_qtail 20 (C := fun W' => Blk W' w2.heap.size 28 (vC ca1) ∧ Blk W' gb 28 (vC cb) ∧ Kept w W') (by kernel_rfl) (by kernel_rfl) ⟨BA4.out.drew, BB4.out.drew, hK4.drew⟩ ?_
        go_simp
        repeat (first
          | (apply q_val; rfl; (intro W hC; exact exec_load_row 28 (.tmp 11) rfl gb rfl hC.2.1 Tryd.underlying28 Zcb.out); go_simp)
          | (apply q_val; rfl; (intro W hC; have k0 := cell2 W hC.2.2; have k1 := cell3 W hC.2.2; have k2 := cell2' W hC.2.2; have k3 := cell3' W hC.2.2; clear hC; go_simp; rfl); go_simp)
          | (refine q_off rfl ?_; go_simp)
          | (apply q_call (f := 10) (v := .agg (vC cb1)); rfl; (intro W hC; go_simp; rfl); (intro W hC; (with_reducible refine (stats_Bump cb a2.k a2.n Hcb.out Hal2.out _).mono ?_); rintro e w1 ⟨rfl, hb1⟩; exact ⟨by rw [Hs2.out], hC.1.call hb1.out, hC.2.1.call hb1.out, hC.2.2.call hb1.out⟩); go_simp))
        refine q_end ?_
        intro W5 B1 B2 hK5
        have HB5 := Lib.hid B1
        have HB6 := Lib.hid B2
        clear B1 B2
        go_wp2_with (first
          | (refine wpList_store_blk 28 (.tmp 11) (.tmp 66) rfl rfl gb (vC cb1) rfl rfl HB6.out Zcb1.out Vcb.out Ocb1.out ?_; intro W6 BB7 hg4 hf4 hz4; have BA7 := Lib.hid (hg4 _ _ _ (Nat.ne_of_lt hgab) HB5.out); have hK6 := hf4 w hK5 (Nat.le_trans hwa (Nat.le_of_lt hgab)); clear hf4 hg4 hz4)
          | fail)
        go_roundw
        case rel => exact ⟨k + 1, by omega, by go_num, by rw [HEA.out]; exact BA7.out, by rw [HEB.out]; exact BB7.out, hK6⟩
        case measure => simp [intOf]; omega
      · have dn : decide ((k : Int) < (n : Int)) = false := decide_eq_false (by omega)
        have hkn : k = n := by omega
        have e1 : bumps c0 (l.take k) = bumps c0 l := by rw [hkn, ← Hn.out, List.take_length]
        have e2 : bumps c0 (l.reverse.take k) = bumps c0 l := by rw [hkn, ← Hn.out, ← List.length_reverse, List.take_length, bumps_reverse l c0 Hc0.out hl]
        rw [e1] at B
        rw [e2] at B'
        have hca : okC (bumps c0 l) := bumps_ok _ Hc0.out hl
        obtain ⟨ca, hcae⟩ : ∃ ca, bumps c0 l = ca := ⟨_, rfl⟩
        rw [hcae] at B B' hca
        have Zca := Lib.hid (size28 (sizeC hca))
        have Yca := Lib.hid (size26 (sizeC hca))
        have Oca := Lib.hid (vC_one ca)
        have Vca := Lib.hid (sizeC hca)
        have Hca := Lib.hid hca
        have HB := Lib.hid B
        have HB' := Lib.hid B'
        clear hkn e1 e2 hca hcae B B'
        go_wp2_with (first
          | (refine wpList_load_blk 28 (.tmp 10) rfl w2.heap.size rfl rfl HB.out Tryd.underlying28 Zca.out ?_)
          | (refine wpList_store_blk 28 (.tmp 14) (.tmp 69) rfl rfl wr.heap.size (vC ca) rfl rfl (Blk.new wr 28 z17) Zca.out (by rw [Vca.out]; rfl) Oca.out ?_; intro W3 BC hg3 hf3 hz3; have BA3 := Lib.hid (hg3 _ _ _ (Nat.ne_of_lt HB.out.lt) (HB.out.alloc _)); have BB3 := Lib.hid (hg3 _ _ _ (Nat.ne_of_lt HB'.out.lt) (HB'.out.alloc _)); have hKB := hf3 w (hK.alloc _) hK.size; clear hf3 hg3 hz3))
        have hgc1 := HB.out.lt
        have hgc2 := HB'.out.lt
        have hgc3 := hK.size
        obtain ⟨gc, hgc⟩ : ∃ gc, wr.heap.size = gc := ⟨_, rfl⟩
        rw [hgc] at hgc1 hgc2 hgc3 BC ⊢
        clear HB HB' hgc hK BB
        go_loopw [15] (fun j wr => ∃ J : Nat, J ≤ m ∧ j = .int .i64 J ∧ Blk wr w2.heap.size 28 (vC ca) ∧ Blk wr gb 28 (vC ca) ∧ Blk wr gc 28 (vC (bump1 ca kk J)) ∧ Kept w wr)
          (fun j _ => m - (intOf j).toNat)
        case atStart => exact ⟨0, Nat.zero_le _, rfl, BA3.out, BB3.out, BC.out, hKB⟩
        case round =>
          obtain ⟨J, hJ, rfl, B, B', B'', hK⟩ := hrel
          have hB := bump1_is ca Hca.out kk J
          have Hbe := Lib.hid hB.1
          have Hbo := Lib.hid hB.2
          by_cases hJm : J < m
          · have hB1 := (bump1_is ca Hca.out kk (J + 1)).2
            have hst : bump1 ca kk (J + 1) = bumpC (bump1 ca kk J) kk 1 := rfl
            obtain ⟨cj, hcj⟩ : ∃ cj, bump1 ca kk J = cj := ⟨_, rfl⟩
            obtain ⟨cj1, hcj1⟩ : ∃ cj1, bump1 ca kk (J + 1) = cj1 := ⟨_, rfl⟩
            rw [hcj] at B'' hst
            rw [hcj1] at hB1 hst
            have Hcj1 := Lib.hid hcj1
            have Hst := Lib.hid hst
            have Ocj : Hid (okC cj) := hcj ▸ Hbo
            have Zcj := Lib.hid (size28 (sizeC Ocj.out))
            have Zcj1 := Lib.hid (size28 (sizeC hB1))
            have Ocj1 := Lib.hid (vC_one cj1)
            have Vcj := Lib.hid ((sizeC Ocj.out).trans (sizeC hB1).symm)
            have HB := Lib.hid B
            have HB' := Lib.hid B'
            have HB'' := Lib.hid B''
            clear hcj hcj1 hst hB1 hB Hbe Hbo B B' B''
            have hJ0 : (J : Int) < (m : Int) := by omega
            go_wp2_with (first
              | (refine wpList_load_blk 28 (.tmp 14) rfl gc rfl rfl HB''.out Tryd.underlying28 Zcj.out ?_)
              | fail)
            refine (stats_Bump cj kk 1 Ocj.out (by omega) _).mono ?_
            rintro e w5 ⟨rfl, hb5⟩
            rw [← Hst.out]
            have HB := Lib.hid (HB.out.call hb5.out)
            have HB' := Lib.hid (HB'.out.call hb5.out)
            have HB'' := Lib.hid (HB''.out.call hb5.out)
            have hK5 := hK.call hb5.out
            clear hb5
            go_wp2_with (first
              | (refine wpList_store_blk 28 (.tmp 14) (.tmp 77) rfl rfl gc (vC cj1) rfl rfl HB''.out Zcj1.out Vcj.out Ocj1.out ?_; intro W6 BC7 hg4 hf4 hz4; have BA7 := Lib.hid (hg4 _ _ _ (Nat.ne_of_lt hgc1) HB.out); have BB7 := Lib.hid (hg4 _ _ _ (Nat.ne_of_lt hgc2) HB'.out); have hK6 := hf4 w hK5 hgc3; clear hf4 hg4 hz4)
              | fail)
            go_roundw
            case rel => exact ⟨J + 1, by omega, by go_num, BA7.out, BB7.out, by rw [Hcj1.out]; exact BC7.out, hK6⟩
            case measure => simp [intOf]; omega
          · have hJm2 : J = m := by omega
            have dJ : decide ((J : Int) < (m : Int)) = false := decide_eq_false (by omega)
            obtain ⟨cj, hcj⟩ : ∃ cj, bumpC ca kk (m : Int) = cj := ⟨_, rfl⟩
            rw [hB.1, hJm2, hcj] at B''
            have Ocj : okC cj := by rw [← hcj, ← hJm2, ← hB.1]; exact hB.2
            have Hcj := Lib.hid hcj
            have Ycj := Lib.hid (size26 (sizeC Ocj))
            have he1 := equalIn26 9998 ca ca Hca.out.1 Hca.out.1
            have he2 := equalIn26 9998 cj cj Ocj.1 Ocj.1
            rw [beq_self_eq_true] at he1 he2
            have hext : ∀ h, (vC cj).extract 0 (Tryd.prog.types[26]'h).size = vC cj := fun h => by rw [show (Tryd.prog.types[26]'h).size = 17 by kernel_rfl, ← sizeC Ocj]; exact Array.extract_size
            have HB := Lib.hid B
            have HB' := Lib.hid B'
            have HB'' := Lib.hid B''
            clear hcj hB hJm2 Hbe Hbo B B' B''
            go_wp2_with fail
            refine wp_region_quiet (C := fun W' => Blk W' w2.heap.size 28 (vC ca) ∧ Blk W' gb 28 (vC ca) ∧ Blk W' gc 28 (vC cj) ∧ Kept w W') (by kernel_rfl) (by kernel_rfl) ⟨HB.out.drew, HB'.out.drew, HB''.out.drew, hK.drew⟩ ?_
            go_simp
            repeat (first
              | (apply q_val; rfl; (intro W hC; exact exec_load_arr 26 (.tmp 80) rfl w2.heap.size rfl hC.1 Tryd.underlying26 Yca.out); go_simp)
              | (apply q_val; rfl; (intro W hC; exact exec_load_arr 26 (.tmp 82) rfl gb rfl hC.2.1 Tryd.underlying26 Yca.out); go_simp)
              | (apply q_val; rfl; (intro W hC; exact exec_load_arr 26 (.tmp 87) rfl gc rfl hC.2.2.1 Tryd.underlying26 Ycj.out); go_simp)
              | (apply q_val; rfl; (intro W hC; exact exec_load_row 28 (.tmp 10) rfl w2.heap.size rfl hC.1 Tryd.underlying28 Zca.out); go_simp)
              | (apply q_val (v := .bool true); rfl; (intro W hC; clear hC; go_simp; rw [hext, he2]; rfl); go_simp)
              | (apply q_val; rfl; (intro W hC; clear hC; go_simp; rfl); go_simp)
              | (refine q_off rfl ?_; go_simp)
              | (apply q_call (f := 10) (v := .agg (vC cj)); rfl; (intro W hC; go_simp; rfl); (intro W hC; (with_reducible refine (stats_Bump ca kk m Hca.out (by omega) _).mono ?_); rintro e w1 ⟨rfl, hb1⟩; exact ⟨by rw [Hcj.out], hC.1.call hb1.out, hC.2.1.call hb1.out, hC.2.2.1.call hb1.out, hC.2.2.2.call hb1.out⟩); go_simp))
            refine q_end ?_
            intro W9 B1 B2 B3 hK9
            clear B1 B2 B3
            go_wp2_with fail
            go_ret
            exact ⟨rfl, hK9⟩
end Go.Proofs.YtapiffkeclnbbaaDoor.S
