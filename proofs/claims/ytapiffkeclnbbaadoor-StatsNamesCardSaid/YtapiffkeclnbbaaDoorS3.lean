import Derived.Test.YtapiffkeclnbbaaDoorProg
import Derived.Below
import Derived.Deep.Draws
import Derived.Deep.AppendLies
import Derived.Maps.AppendAt
import Derived.OwnWalk
import Derived.Laws.MakeOwn
import Derived.Laws.OwnMore
import Derived.Deep.OwnRows
import Derived.Tactics
import Derived.Laws.Slices
import Derived.WalkKit
import Derived.KernelRfl
import Derived.RowKit3
import Derived.Deep.LoopGhost
import Derived.Deep.QuietTactic
import Derived.BigQuiet
import Derived.WideLaws
import Derived.Deep.DeepCutAuto
import Derived.Deep.CutBlock
import Derived.Deep.RegionHeld3
import Derived.Deep.RegionWith
import Derived.Deep.RegionLaw
import Derived.Laws.Rows
import Derived.ArgAppend
import Derived.OrdersHeld
import Derived.Laws.BitsLemmas
import Derived.Laws.StructEq
import Derived.RowKit
import Derived.Lib.Hide
import Derived.Lib.SliceRun
import Derived.StillTail
import Derived.Laws.CopyOwn
import Derived.Test.YtapiffkeclnbbaaDoorB0
import Derived.Test.YtapiffkeclnbbaaDoorB1
import Derived.Test.YtapiffkeclnbbaaDoorB2
import Derived.Test.YtapiffkeclnbbaaDoorB3
import Derived.Test.YtapiffkeclnbbaaDoorB4
import Derived.Test.YtapiffkeclnbbaaDoorS1
import Derived.Test.YtapiffkeclnbbaaDoorS2
/-! Get and Bump, the program's and the document's. -/
set_option linter.unusedVariables false
set_option linter.unusedSimpArgs false
namespace Go.Proofs.YtapiffkeclnbbaaDoor.S
open Go.RowKit Go.Proofs.YtapiffkeclnbbaaDoor.B0
theorem size28 {A : Array Value} (h : A.size = 17) : (Tryd.prog.info? 28).map (·.size) = some A.size := by rw [h]; kernel_rfl
theorem size38 {A : Array Value} (h : A.size = 17) : (Tryd.prog.info? 38).map (·.size) = some A.size := by rw [h]; kernel_rfl
def z17 : Array Value := #[.int .u64 0, .int .u64 0, .int .u64 0, .int .u64 0, .int .u64 0, .int .u64 0, .int .u64 0, .int .u64 0, .int .u64 0, .int .u64 0, .int .u64 0, .int .u64 0, .int .u64 0, .int .u64 0, .int .u64 0, .int .u64 0, .int .u64 0]
theorem blk_row {w : World} {g : Nat} {t : TypeId} {old : Array Value} (cs : Array Value) (h : Blk w g t old) : Blk (w.setRow g cs) g t cs := setRow_heap w g old cs t _ h
theorem blk_row_far {w : World} {g g' : Nat} {t : TypeId} {old : Array Value} (cs : Array Value) (h : Blk w g t old) (hn : g ≠ g') : Blk (w.setRow g' cs) g t old := by
  unfold Blk
  rw [setRow_other _ _ _ _ hn]
  exact h
theorem kept_row {w w' : World} {g : Nat} (h : Kept w w') (cs : Array Value) (hg : w.heap.size ≤ g) : Kept w (w'.setRow g cs) := below_setRow h.out hg cs
set_option maxHeartbeats 400000 in
set_option maxRecDepth 100000 in
theorem ref_Get (c : List Int) (k : Int) (hc : okC c) (w : World) : Calls Tryd.prog 14 #[.agg (vC c), .int .i64 k] w fun e w' => e = .returned (.int .u64 (getC c k)) ∧ Kept w w' := by
  have hu := Tryd.underlying38
  have hu2 := Tryd.underlying26
  cases hk : isK k with
  | false =>
    have he : getC c k = 0 := by simp [getC, hk]
    rw [he]
    clear he
    go_enter Tryd.func14, Tryd.ntmps14
    go_wp2_with fail
    refine (ref_kind _ _).mono ?_
    rintro e w1 ⟨rfl, rfl⟩
    rw [hk]
    go_wp2_with fail
    go_ret
    exact ⟨rfl, (Kept.refl _).alloc _⟩
  | true =>
    have hd : 0 ≤ k ∧ k < 17 := by simpa [isK] using hk
    have he : getC c k = c[k.toNat]?.getD 0 := by simp [getC, hk]
    have hg := vC_get c k.toNat (by have := hc.1; omega)
    rw [he]
    obtain ⟨x, hx⟩ : ∃ x, c[k.toNat]?.getD 0 = x := ⟨_, rfl⟩
    rw [hx] at hg ⊢
    obtain ⟨h0, h1⟩ := hd
    clear he hx hc
    go_enter Tryd.func14, Tryd.ntmps14
    go_wp2_with fail
    refine (ref_kind _ _).mono ?_
    rintro e w1 ⟨rfl, rfl⟩
    rw [hk]
    go_wp2_with fail
    go_ret
    exact ⟨rfl, (Kept.refl _).alloc _⟩
set_option maxHeartbeats 400000 in
set_option maxRecDepth 100000 in
theorem stats_Bump_no (c : List Int) (k n : Int) (hc : okC c) (h : (isK k && decide (0 < n)) = false) (w : World) : Calls Tryd.prog 10 #[.agg (vC c), .int .i64 k, .int .i64 n] w fun e w' => e = .returned (.agg (vC c)) ∧ Kept w w' := by
  have hu := Tryd.underlying28
  have hu2 := Tryd.underlying26
  have hs := vC_size c
  rw [hc.1] at hs
  have h1 := vC_one c
  have h28 := size28 hs
  obtain ⟨A, hA⟩ : ∃ A, vC c = A := ⟨_, rfl⟩
  rw [hA] at hs h1 h28 ⊢
  have hS := Lib.hid hs
  have H1 := Lib.hid h1
  have H28 := Lib.hid h28
  clear hs h1 h28
  cases hk : isK k with
  | false =>
    clear h
    go_enter Tryd.func10, Tryd.ntmps10
    go_wp2_with fail
    refine (stats_is _ _).mono ?_
    rintro e w1 ⟨rfl, rfl⟩
    rw [hk]
    go_wp2_with (first
      | (refine wpList_load_row rfl 28 (.tmp 3) rfl w.heap.size rfl 28 A (0, 0) _ ((Blk.new w _ _).alloc _).out Tryd.underlying28 rfl H28.out ?_)
      | (refine wpList_store_row rfl 28 (.tmp 6) (.tmp 23) rfl (w.heap.size + 1) A rfl rfl 28 z17 (Blk.new2 w _ _ _).out H28.out (by rw [hS.out]; rfl) H1.out ?_))
    exact ret_blk rfl rfl (blk_row _ (Blk.new2 w _ _ _)) hu rfl H28.out rfl ⟨rfl, kept_row (((Kept.refl _).alloc _).alloc _) _ (by omega)⟩
  | true =>
    have hn0 : decide (0 < n) = false := by simpa [hk] using h
    have hn : decide (0 < n) = false := hn0
    clear h hn0
    go_enter Tryd.func10, Tryd.ntmps10
    go_wp2_with fail
    refine (stats_is _ _).mono ?_
    rintro e w1 ⟨rfl, rfl⟩
    rw [hk]
    go_wp2_with (first
      | (refine wpList_load_row rfl 28 (.tmp 3) rfl w.heap.size rfl 28 A (0, 0) _ ((Blk.new w _ _).alloc _).out Tryd.underlying28 rfl H28.out ?_)
      | (refine wpList_store_row rfl 28 (.tmp 6) (.tmp 23) rfl (w.heap.size + 1) A rfl rfl 28 z17 (Blk.new2 w _ _ _).out H28.out (by rw [hS.out]; rfl) H1.out ?_))
    exact ret_blk rfl rfl (blk_row _ (Blk.new2 w _ _ _)) hu rfl H28.out rfl ⟨rfl, kept_row (((Kept.refl _).alloc _).alloc _) _ (by omega)⟩
set_option maxHeartbeats 400000 in
set_option maxRecDepth 100000 in
theorem stats_Bump_yes (c : List Int) (k n : Int) (hc : okC c) (hk : isK k = true) (hn0 : 0 < n) (hn1 : n < 9223372036854775808) (w : World) : Calls Tryd.prog 10 #[.agg (vC c), .int .i64 k, .int .i64 n] w fun e w' => e = .returned (.agg (vC (c.set k.toNat (addV (c[k.toNat]?.getD 0) n)))) ∧ Kept w w' := by
  have hu := Tryd.underlying28
  have hu2 := Tryd.underlying26
  have hd : 0 ≤ k ∧ k < 17 := by simpa [isK] using hk
  obtain ⟨h0, h1⟩ := hd
  have hn : decide (0 < n) = true := decide_eq_true hn0
  have hg := vC_get c k.toNat (by have := hc.1; omega)
  have hwr : IntKind.u64.wrap n = n := by rw [wrap_u64]; omega
  have hox := okC_get hc k.toNat
  obtain ⟨x, hx⟩ : ∃ x, c[k.toNat]?.getD 0 = x := ⟨_, rfl⟩
  rw [hx] at hg hox ⊢
  have hon : okU n := ⟨by omega, by omega⟩
  have hset := vC_set c k.toNat (addV x n)
  have hB1 := vC_one (c.set k.toNat (addV x n))
  have hsB : (vC (c.set k.toNat (addV x n))).size = 17 := by rw [vC_size]; simp [hc.1]
  have h28 := size28 hsB
  obtain ⟨A, hA⟩ : ∃ A, vC c = A := ⟨_, rfl⟩
  obtain ⟨B, hB⟩ : ∃ B, vC (c.set k.toNat (addV x n)) = B := ⟨_, rfl⟩
  rw [hA] at hg hset ⊢
  rw [hB] at hset hB1 hsB h28 ⊢
  have hS := Lib.hid hsB
  have H1 := Lib.hid hB1
  have H28 := Lib.hid h28
  have Hset := Lib.hid hset
  clear hsB hB1 h28 hx hc hn0 hn1 hset
  go_enter Tryd.func10, Tryd.ntmps10
  go_wp2_with fail
  refine (stats_is _ _).mono ?_
  rintro e w1 ⟨rfl, rfl⟩
  rw [hk]
  go_wp2_with fail
  refine (stats_add _ _ hox hon _).mono ?_
  rintro e w1 ⟨rfl, rfl⟩
  have BA : Blk ((w.alloc (.cells (A.setIfInBounds k.toNat (.int .u64 (addV x n))) 28)).alloc (.cells z17 28)) w.heap.size 28 B := by
    rw [Hset.out]
    exact (Blk.new _ _ _).alloc _
  go_wp2_with (first
    | (refine wpList_load_row rfl 28 (.tmp 3) rfl w.heap.size rfl 28 B (0, 0) _ BA.out Tryd.underlying28 rfl H28.out ?_)
    | (refine wpList_store_row rfl 28 (.tmp 6) (.tmp 23) rfl (w.heap.size + 1) B rfl rfl 28 z17 (Blk.new2 w _ _ _).out H28.out (by rw [hS.out]; rfl) H1.out ?_))
  exact ret_blk rfl rfl (blk_row _ (Blk.new2 w _ _ _)) hu rfl H28.out rfl ⟨rfl, kept_row (((Kept.refl _).alloc _).alloc _) _ (by omega)⟩
theorem stats_Bump (c : List Int) (k n : Int) (hc : okC c) (hn1 : n < 9223372036854775808) (w : World) : Calls Tryd.prog 10 #[.agg (vC c), .int .i64 k, .int .i64 n] w fun e w' => e = .returned (.agg (vC (bumpC c k n))) ∧ Kept w w' := by
  unfold bumpC
  by_cases h : isK k = true ∧ 0 < n
  · rw [if_pos h]
    exact stats_Bump_yes c k n hc h.1 h.2 hn1 w
  · rw [if_neg h]
    refine stats_Bump_no c k n hc ?_ w
    cases hk : isK k with
    | false => rfl
    | true => simpa [hk] using h
set_option maxHeartbeats 400000 in
set_option maxRecDepth 100000 in
theorem ref_Bump_no (c : List Int) (k n : Int) (hc : okC c) (h : (isK k && decide (0 < n)) = false) (w : World) : Calls Tryd.prog 13 #[.agg (vC c), .int .i64 k, .int .i64 n] w fun e w' => e = .returned (.agg (vC c)) ∧ Kept w w' := by
  have hu := Tryd.underlying38
  have hu2 := Tryd.underlying26
  have hs := vC_size c
  rw [hc.1] at hs
  have h1 := vC_one c
  have h28 := size38 hs
  obtain ⟨A, hA⟩ : ∃ A, vC c = A := ⟨_, rfl⟩
  rw [hA] at hs h1 h28 ⊢
  have hS := Lib.hid hs
  have H1 := Lib.hid h1
  have H28 := Lib.hid h28
  clear hs h1 h28
  cases hk : isK k with
  | false =>
    clear h
    go_enter Tryd.func13, Tryd.ntmps13
    go_wp2_with fail
    refine (ref_kind _ _).mono ?_
    rintro e w1 ⟨rfl, rfl⟩
    rw [hk]
    go_wp2_with (first
      | (refine wpList_load_row rfl 38 (.tmp 3) rfl w.heap.size rfl 38 A (0, 0) _ ((Blk.new w _ _).alloc _).out Tryd.underlying38 rfl H28.out ?_)
      | (refine wpList_store_row rfl 38 (.tmp 6) (.tmp 23) rfl (w.heap.size + 1) A rfl rfl 38 z17 (Blk.new2 w _ _ _).out H28.out (by rw [hS.out]; rfl) H1.out ?_))
    exact ret_blk rfl rfl (blk_row _ (Blk.new2 w _ _ _)) hu rfl H28.out rfl ⟨rfl, kept_row (((Kept.refl _).alloc _).alloc _) _ (by omega)⟩
  | true =>
    have hn0 : decide (0 < n) = false := by simpa [hk] using h
    have hn : decide (1 ≤ n) = false := decide_eq_false (by simp at hn0; omega)
    clear h hn0
    go_enter Tryd.func13, Tryd.ntmps13
    go_wp2_with fail
    refine (ref_kind _ _).mono ?_
    rintro e w1 ⟨rfl, rfl⟩
    rw [hk]
    go_wp2_with (first
      | (refine wpList_load_row rfl 38 (.tmp 3) rfl w.heap.size rfl 38 A (0, 0) _ ((Blk.new w _ _).alloc _).out Tryd.underlying38 rfl H28.out ?_)
      | (refine wpList_store_row rfl 38 (.tmp 6) (.tmp 23) rfl (w.heap.size + 1) A rfl rfl 38 z17 (Blk.new2 w _ _ _).out H28.out (by rw [hS.out]; rfl) H1.out ?_))
    exact ret_blk rfl rfl (blk_row _ (Blk.new2 w _ _ _)) hu rfl H28.out rfl ⟨rfl, kept_row (((Kept.refl _).alloc _).alloc _) _ (by omega)⟩
set_option maxHeartbeats 400000 in
set_option maxRecDepth 100000 in
theorem ref_Bump_yes (c : List Int) (k n : Int) (hc : okC c) (hk : isK k = true) (hn0 : 0 < n) (hn1 : n < 9223372036854775808) (w : World) : Calls Tryd.prog 13 #[.agg (vC c), .int .i64 k, .int .i64 n] w fun e w' => e = .returned (.agg (vC (c.set k.toNat (addV (c[k.toNat]?.getD 0) n)))) ∧ Kept w w' := by
  have hu := Tryd.underlying38
  have hu2 := Tryd.underlying26
  have hd : 0 ≤ k ∧ k < 17 := by simpa [isK] using hk
  obtain ⟨h0, h1⟩ := hd
  have hn : decide (1 ≤ n) = true := decide_eq_true (by omega)
  have hg := vC_get c k.toNat (by have := hc.1; omega)
  have hwr : IntKind.u64.wrap n = n := by rw [wrap_u64]; omega
  have hox := okC_get hc k.toNat
  obtain ⟨x, hx⟩ : ∃ x, c[k.toNat]?.getD 0 = x := ⟨_, rfl⟩
  rw [hx] at hg hox ⊢
  have hon : okU n := ⟨by omega, by omega⟩
  have hset := vC_set c k.toNat (addV x n)
  have hB1 := vC_one (c.set k.toNat (addV x n))
  have hsB : (vC (c.set k.toNat (addV x n))).size = 17 := by rw [vC_size]; simp [hc.1]
  have h28 := size38 hsB
  obtain ⟨A, hA⟩ : ∃ A, vC c = A := ⟨_, rfl⟩
  obtain ⟨B, hB⟩ : ∃ B, vC (c.set k.toNat (addV x n)) = B := ⟨_, rfl⟩
  rw [hA] at hg hset ⊢
  rw [hB] at hset hB1 hsB h28 ⊢
  have hS := Lib.hid hsB
  have H1 := Lib.hid hB1
  have H28 := Lib.hid h28
  have Hset := Lib.hid hset
  clear hsB hB1 h28 hx hc hn0 hn1 hset
  go_enter Tryd.func13, Tryd.ntmps13
  go_wp2_with fail
  refine (ref_kind _ _).mono ?_
  rintro e w1 ⟨rfl, rfl⟩
  rw [hk]
  go_wp2_with fail
  refine (ref_more _ _ hox hon _).mono ?_
  rintro e w1 ⟨rfl, rfl⟩
  have BA : Blk ((w.alloc (.cells (A.setIfInBounds k.toNat (.int .u64 (addV x n))) 38)).alloc (.cells z17 38)) w.heap.size 38 B := by
    rw [Hset.out]
    exact (Blk.new _ _ _).alloc _
  go_wp2_with (first
    | (refine wpList_load_row rfl 38 (.tmp 3) rfl w.heap.size rfl 38 B (0, 0) _ BA.out Tryd.underlying38 rfl H28.out ?_)
    | (refine wpList_store_row rfl 38 (.tmp 6) (.tmp 23) rfl (w.heap.size + 1) B rfl rfl 38 z17 (Blk.new2 w _ _ _).out H28.out (by rw [hS.out]; rfl) H1.out ?_))
  exact ret_blk rfl rfl (blk_row _ (Blk.new2 w _ _ _)) hu rfl H28.out rfl ⟨rfl, kept_row (((Kept.refl _).alloc _).alloc _) _ (by omega)⟩
theorem ref_Bump (c : List Int) (k n : Int) (hc : okC c) (hn1 : n < 9223372036854775808) (w : World) : Calls Tryd.prog 13 #[.agg (vC c), .int .i64 k, .int .i64 n] w fun e w' => e = .returned (.agg (vC (bumpC c k n))) ∧ Kept w w' := by
  unfold bumpC
  by_cases h : isK k = true ∧ 0 < n
  · rw [if_pos h]
    exact ref_Bump_yes c k n hc h.1 h.2 hn1 w
  · rw [if_neg h]
    refine ref_Bump_no c k n hc ?_ w
    cases hk : isK k with
    | false => rfl
    | true => simpa [hk] using h
end Go.Proofs.YtapiffkeclnbbaaDoor.S
