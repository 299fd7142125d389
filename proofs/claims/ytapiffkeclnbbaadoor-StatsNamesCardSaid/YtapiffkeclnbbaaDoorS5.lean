import Derived.Test.YtapiffkeclnbbaaDoorProg
import Derived.Below
import Derived.Deep.Draws
import Derived.Deep.AppendLies
import Derived.Maps.AppendAt
import Derived.OwnWalk
import Derived.Laws.MakeOwn
import Derived.Laws.OwnMore
import Derived.Deep.OwnRows
import Derived.Tactics
import Derived.Laws.Slices
import Derived.WalkKit
import Derived.KernelRfl
import Derived.RowKit3
import Derived.Deep.LoopGhost
import Derived.Deep.QuietTactic
import Derived.BigQuiet
import Derived.WideLaws
import Derived.Deep.DeepCutAuto
import Derived.Deep.CutBlock
import Derived.Deep.RegionHeld3
import Derived.Deep.RegionWith
import Derived.Deep.RegionLaw
import Derived.Laws.Rows
import Derived.ArgAppend
import Derived.OrdersHeld
import Derived.Laws.BitsLemmas
import Derived.Laws.StructEq
import Derived.RowKit
import Derived.Lib.Hide
import Derived.Lib.SliceRun
import Derived.StillTail
import Derived.Laws.CopyOwn
import Derived.Test.YtapiffkeclnbbaaDoorB0
import Derived.Test.YtapiffkeclnbbaaDoorB1
import Derived.Test.YtapiffkeclnbbaaDoorB2
import Derived.Test.YtapiffkeclnbbaaDoorB3
import Derived.Test.YtapiffkeclnbbaaDoorB4
import Derived.Test.YtapiffkeclnbbaaDoorS1
import Derived.Test.YtapiffkeclnbbaaDoorS2
import Derived.Test.YtapiffkeclnbbaaDoorS3
import Derived.Test.YtapiffkeclnbbaaDoorS4
/-! '==' of arrays of counts; a row loaded within a region; stats.Sum, kedgeref15.Sum. -/
set_option linter.unusedVariables false
set_option linter.unusedSimpArgs false
namespace Go.Proofs.YtapiffkeclnbbaaDoor.S
open Go.RowKit Go.Proofs.YtapiffkeclnbbaaDoor.B0
attribute [local irreducible] wpQuiet
theorem all_range_int : ∀ (xs ys : List Int), xs.length = ys.length → ((List.range xs.length).all fun i => xs.getD i 0 == ys.getD i 0) = (xs == ys)
  | [], [], _ => rfl
  | x :: xs, y :: ys, h => by
    have ih := all_range_int xs ys (by simpa using h)
    rw [List.length_cons, List.range_succ_eq_map, List.all_cons, List.all_map]
    simp only [List.getD_cons_zero, Function.comp_def, List.getD_cons_succ, ih]
    simp [List.cons_beq_cons]
  | [], _ :: _, h => by simp at h
  | _ :: _, [], h => by simp at h
theorem cells25 : Tryd.prog.cellsOf 25 = 1 := by kernel_rfl
theorem eqItems26 (d : Nat) (xs ys : List Int) (hx : xs.length = 17) (hy : ys.length = 17) (w : World) : ∀ l : List Nat, (∀ i ∈ l, i < 17) →
    (Op.eqItems (d + 1) 25 1 (vC xs) (vC ys) l).run Tryd.prog w = .ok (l.all fun i => xs.getD i 0 == ys.getD i 0) w
  | [], _ => by simp [Op.eqItems]
  | i :: l, hl => by
    have hi : i < 17 := hl i (by simp)
    have px : (part 25 (vC xs) (i * 1)).run Tryd.prog w = .ok (.int .u64 (xs.getD i 0)) w := by
      simp [part, isAgg, run_underlying Tryd.underlying25, vC, List.getD, List.getElem?_eq_getElem (show i < xs.length by omega)]
    have py : (part 25 (vC ys) (i * 1)).run Tryd.prog w = .ok (.int .u64 (ys.getD i 0)) w := by
      simp [part, isAgg, run_underlying Tryd.underlying25, vC, List.getD, List.getElem?_eq_getElem (show i < ys.length by omega)]
    have pe : (Op.equalIn (d + 1) 25 (.int .u64 (xs.getD i 0)) (.int .u64 (ys.getD i 0))).run Tryd.prog w = .ok (xs.getD i 0 == ys.getD i 0) w :=
      run_equalIn_int w d 25 .u64 .u64 _ _ Tryd.underlying25
    simp only [Op.eqItems, Sem.run_bind, px, py, pe, Result.andThen_ok, List.all_cons]
    cases hb : (xs.getD i 0 == ys.getD i 0)
    · simp
    · simp only [Bool.not_true, Bool.false_eq_true, if_false, Bool.true_and]
      exact eqItems26 d xs ys hx hy w l fun j hj => hl j (by simp [hj])
theorem equalIn26 (d : Nat) (xs ys : List Int) (hx : xs.length = 17) (hy : ys.length = 17) (w : World) : (Op.equalIn (d + 2) 26 (.agg (vC xs)) (.agg (vC ys))).run Tryd.prog w = .ok (xs == ys) w := by
  obtain ⟨i, hi⟩ : ∃ i, Tryd.prog.info? 25 = some i := by
    cases h : Tryd.prog.info? 25 with
    | none => have := sz25; simp [h] at this
    | some i => exact ⟨i, rfl⟩
  rw [run_equalIn_array (P := Tryd.prog) (w := w) (d + 1) (vC xs) (vC ys) Tryd.underlying26 hi, cells25, eqItems26 d xs ys hx hy w _ (fun i hi => by simpa using hi), ← all_range_int xs ys (hx.trans hy.symm), hx]
theorem eql26 (xs ys : List Int) (hx : xs.length = 17) (hy : ys.length = 17) (w : World) : (binOp .eql 26 (.agg (vC xs)) (.agg (vC ys))).run Tryd.prog w = .ok (.bool (xs == ys)) w := by
  rw [run_eql_struct, equalIn26 9998 xs ys hx hy w]
  rfl
theorem neq26 (xs ys : List Int) (hx : xs.length = 17) (hy : ys.length = 17) (w : World) : (binOp .neq 26 (.agg (vC xs)) (.agg (vC ys))).run Tryd.prog w = .ok (.bool (!(xs == ys))) w := by
  rw [run_neq_struct, equalIn26 9998 xs ys hx hy w]
  rfl
theorem exec_load_row {o : Oper} {a : Act} {W : World} (ty : TypeId) (x : Operand) (ho : o.op = .load ty x) (g : Nat) (hx : a.eval x = .pointer (some ⟨g, 0, none⟩)) {t : TypeId} {cs : Array Value} {fs : Array Field} (hB : Blk W g t cs)
    (hu : Tryd.prog.underlying ty = some (.struct fs)) (hi : (Tryd.prog.info? ty).map (·.size) = some cs.size) : (execOp a.eval o).run Tryd.prog W = .ok (.value (.agg cs)) W := by
  unfold execOp
  simp only [ho, hx, Instr.loadAt, Instr.sureAddr, Sem.run_bind, Sem.run_pure, Result.andThen_ok, run_loadVar_row W g t ty cs (0, 0) _ hB hu rfl hi]
theorem exec_load_arr {o : Oper} {a : Act} {W : World} (ty : TypeId) (x : Operand) (ho : o.op = .load ty x) (g : Nat) (hx : a.eval x = .pointer (some ⟨g, 0, none⟩)) {t : TypeId} {cs : Array Value} {n : Nat} {e : TypeId} (hB : Blk W g t cs)
    (hu : Tryd.prog.underlying ty = some (.array n e)) (hi : (Tryd.prog.info? ty).map (·.size) = some cs.size) : (execOp a.eval o).run Tryd.prog W = .ok (.value (.agg cs)) W := by
  unfold execOp
  simp only [ho, hx, Instr.loadAt, Instr.sureAddr, Sem.run_bind, Sem.run_pure, Result.andThen_ok, run_loadVar_row W g t ty cs (0, 0) _ hB hu rfl hi]
theorem size26 {A : Array Value} (h : A.size = 17) : (Tryd.prog.info? 26).map (·.size) = some A.size := by rw [h]; kernel_rfl
theorem sizeC {c : List Int} (h : okC c) : (vC c).size = 17 := by rw [vC_size]; exact h.1
/-- the sum of counts -/
def sumC (c l : List Int) : Int := l.foldl (fun n k => addV n (getC c k)) 0
theorem sumC_ok {c : List Int} (h : okC c) (l : List Int) : okU (sumC c l) := by
  unfold sumC
  have : ∀ (l : List Int) (n : Int), okU n → okU (l.foldl (fun n k => addV n (getC c k)) n) := fun l => by
    induction l with
    | nil => exact fun n h => h
    | cons k l ih => exact fun n hn => ih _ (addV_ok hn (okC_getC h k))
  exact this l 0 (by simp [okU])
theorem sumC_succ (c l : List Int) (i : Nat) (h : i < l.length) : sumC c (l.take (i + 1)) = addV (sumC c (l.take i)) (getC c l[i]) := by
  unfold sumC
  rw [List.take_add_one, List.getElem?_eq_getElem h]
  simp only [Option.toList_some, List.foldl_append, List.foldl_cons, List.foldl_nil]
theorem getC_zero (k : Int) : getC (List.replicate 17 0) k = 0 := by
  unfold getC
  split
  · rw [List.getElem?_replicate]; split <;> rfl
  · rfl
theorem sumC_zero (l : List Int) : sumC (List.replicate 17 0) l = 0 := by
  unfold sumC
  have : ∀ (l : List Int), l.foldl (fun n k => addV n (getC (List.replicate 17 0) k)) 0 = 0 := fun l => by
    induction l with
    | nil => rfl
    | cons k l ih => rw [List.foldl_cons, getC_zero, show addV 0 0 = 0 from rfl]; exact ih
  exact this l
set_option maxHeartbeats 800000 in
set_option maxRecDepth 100000 in
theorem stats_Sum (c : List Int) (hc : okC c) (A : Option Addr) (n cap : Nat) (l : List Int) (hn : l.length = n) (hnc : n ≤ cap) (hmx : n ≤ 9223372036854775807) (w : World) (hr : Ri w w.heap.size .i64 A l) : Calls Tryd.prog 15 #[.agg (vC c), .slice A n cap] w fun e w' => e = .returned (.int .u64 (sumC c l)) ∧ Kept w w' := by
  have hu := Tryd.underlying28
  have hu2 := Tryd.underlying26
  have H28 := Lib.hid (size28 (sizeC hc))
  have H26 := Lib.hid (size26 (sizeC hc))
  have he := equalIn26 9998 c (List.replicate 17 0) hc.1 (by simp)
  rw [← z17_vC] at he
  unfold z17 at he
  have Hn := Lib.hid hn
  have Hc := Lib.hid hc
  clear hn hc
  cases hz : (c == List.replicate 17 0) with
  | true =>
    rw [hz] at he
    have hs : sumC c l = 0 := by rw [beq_iff_eq.1 hz]; exact sumC_zero l
    rw [hs]
    clear hs hz
    go_enter Tryd.func15, Tryd.ntmps15
    go_wp2_with (first
      | (refine wpList_load_row rfl 26 (.tmp 8) rfl w.heap.size rfl 28 (vC c) (0, 0) _ (Blk.new w _ _).out Tryd.underlying26 rfl H26.out ?_)
      | fail)
    go_ret
    exact ⟨rfl, (Kept.refl _).alloc _⟩
  | false =>
    rw [hz] at he
    clear hz
    go_enter Tryd.func15, Tryd.ntmps15
    go_wp2_with (first
      | (refine wpList_load_row rfl 26 (.tmp 8) rfl w.heap.size rfl 28 (vC c) (0, 0) _ (Blk.new w _ _).out Tryd.underlying26 rfl H26.out ?_)
      | fail)
    clear he
    go_loopw [5, 14] (fun s i wr => ∃ k : Nat, k ≤ n ∧ i = .int .i64 k ∧ s = .int .u64 (sumC c (l.take k)) ∧ Blk wr w.heap.size 28 (vC c) ∧ Kept w wr)
      (fun _ i _ => n - (intOf i).toNat)
    case atStart => exact ⟨0, Nat.zero_le _, rfl, rfl, Blk.new _ _ _, (Kept.refl w).alloc _⟩
    case round =>
      obtain ⟨k, hk, rfl, rfl, B0, hK⟩ := hrel
      have HB0 := Lib.hid B0
      clear B0
      by_cases hln : k < n
      · have hlx : k < l.length := by rw [Hn.out]; exact hln
        obtain ⟨x, hx⟩ : ∃ x, l[k] = x := ⟨_, rfl⟩
        have hsc := sumC_succ c l k hlx
        rw [hx] at hsc
        have Hsc := Lib.hid hsc
        have hso := sumC_ok Hc.out (l.take k)
        have hgo := okC_getC Hc.out x
        rcases hr with h | ⟨b, off, rfl, hb, hc⟩
        · subst h; simp at hlx
        · have c0 := (hK.out.cell (p := ⟨b, off + k, none⟩) hb).trans (hc k x (by rw [List.getElem?_eq_getElem hlx, hx]))
          have hk0 : (0 : Int) ≤ (k : Int) := by omega
          have hkn : (k : Int) < (n : Int) := by omega
          have hcc : (k : Int) < (cap : Int) := by omega
          clear hsc hx
          go_wp2_with (first
            | (refine wpList_load_row rfl 28 (.tmp 2) rfl w.heap.size rfl 28 (vC c) (0, 0) _ HB0.out.out Tryd.underlying28 rfl H28.out ?_)
            | fail)
          refine (stats_Get c x Hc.out _).mono ?_
          rintro e w1 ⟨rfl, hb1⟩
          have HB1 := Lib.hid (HB0.out.call hb1.out)
          have hK1 := hK.call hb1.out
          clear hb1 HB0 hK
          go_wp2_with fail
          refine (stats_add _ _ hso hgo _).mono ?_
          rintro e w2 ⟨rfl, rfl⟩
          go_wp2_with fail
          go_roundw
          case rel => exact ⟨k + 1, by omega, by go_num, by rw [Hsc.out], HB1.out, hK1⟩
          case measure => simp [intOf]; omega
      · have hd : decide ((k : Int) < (n : Int)) = false := decide_eq_false (by omega)
        have hkn : k = n := by omega
        have e0 : sumC c (l.take k) = sumC c l := by rw [hkn, ← Hn.out, List.take_length]
        rw [e0]
        clear hkn e0
        go_wp2_with fail
        go_ret
        exact ⟨rfl, hK⟩
set_option maxHeartbeats 800000 in
set_option maxRecDepth 100000 in
theorem ref_Sum (c : List Int) (hc : okC c) (A : Option Addr) (n cap : Nat) (l : List Int) (hn : l.length = n) (hnc : n ≤ cap) (hmx : n ≤ 9223372036854775807) (w : World) (hr : Ri w w.heap.size .i64 A l) : Calls Tryd.prog 16 #[.agg (vC c), .slice A n cap] w fun e w' => e = .returned (.int .u64 (sumC c l)) ∧ Kept w w' := by
  have hu := Tryd.underlying38
  have hu2 := Tryd.underlying26
  have H28 := Lib.hid (size38 (sizeC hc))
  have Hn := Lib.hid hn
  have Hc := Lib.hid hc
  clear hn hc
  go_enter Tryd.func16, Tryd.ntmps16
  go_wp2_with fail
  go_loopw [5, 6] (fun s i wr => ∃ k : Nat, k ≤ n ∧ i = .int .i64 k ∧ s = .int .u64 (sumC c (l.take k)) ∧ Blk wr w.heap.size 38 (vC c) ∧ Kept w wr)
    (fun _ i _ => n - (intOf i).toNat)
  case atStart => exact ⟨0, Nat.zero_le _, rfl, rfl, Blk.new _ _ _, (Kept.refl w).alloc _⟩
  case round =>
    obtain ⟨k, hk, rfl, rfl, B0, hK⟩ := hrel
    have HB0 := Lib.hid B0
    clear B0
    by_cases hln : k < n
    · have hlx : k < l.length := by rw [Hn.out]; exact hln
      obtain ⟨x, hx⟩ : ∃ x, l[k] = x := ⟨_, rfl⟩
      have hsc := sumC_succ c l k hlx
      rw [hx] at hsc
      have Hsc := Lib.hid hsc
      have hso := sumC_ok Hc.out (l.take k)
      have hgo := okC_getC Hc.out x
      rcases hr with h | ⟨b, off, rfl, hb, hc⟩
      · subst h; simp at hlx
      · have c0 := fun (W : World) (h : Kept w W) => (h.out.cell (p := ⟨b, off + k, none⟩) hb).trans (hc k x (by rw [List.getElem?_eq_getElem hlx, hx]))
        have hk0 : (0 : Int) ≤ (k : Int) := by omega
        have hkn : (k : Int) < (n : Int) := by omega
        have hcc : (k : Int) < (cap : Int) := by omega
        clear hsc hx
        go_wp2_with fail
        refine wp_region_quiet (C := fun W' => Blk W' w.heap.size 38 (vC c) ∧ Kept w W') (by kernel_rfl) (by kernel_rfl) ⟨HB0.out.drew, hK.drew⟩ ?_
        go_simp
        repeat (first
          | (apply q_val; rfl; (intro W hC; exact exec_load_row 38 (.tmp 2) rfl w.heap.size rfl hC.1 Tryd.underlying38 H28.out); go_simp)
          | (apply q_val; rfl; (intro W hC; have k0 := c0 W hC.2; clear hC; go_simp; rfl); go_simp)
          | (refine q_off rfl ?_; go_simp)
          | (apply q_call (f := 14); rfl; (intro W hC; go_simp; rfl); (intro W hC; (with_reducible refine (ref_Get c x Hc.out _).mono ?_); rintro e w1 ⟨rfl, hb1⟩; refine ⟨?_, hC.1.call hb1.out, hC.2.call hb1.out⟩; rfl); go_simp)
          | (apply q_call (f := 22); rfl; (intro W hC; go_simp; rfl); (intro W hC; (with_reducible refine (ref_more _ _ hso hgo _).mono ?_); rintro e w1 ⟨rfl, rfl⟩; refine ⟨?_, hC.1, hC.2⟩; rfl); go_simp))
        refine q_end ?_
        intro W1 B1 hK1
        have HB1 := Lib.hid B1
        clear B1
        go_wp2_with fail
        go_roundw
        case rel => exact ⟨k + 1, by omega, by go_num, by rw [Hsc.out], HB1.out, hK1⟩
        case measure => simp [intOf]; omega
    · have hd : decide ((k : Int) < (n : Int)) = false := decide_eq_false (by omega)
      have hkn : k = n := by omega
      have e0 : sumC c (l.take k) = sumC c l := by rw [hkn, ← Hn.out, List.take_length]
      rw [e0]
      clear hkn e0
      go_wp2_with fail
      go_ret
      exact ⟨rfl, hK⟩
end Go.Proofs.YtapiffkeclnbbaaDoor.S
