import Derived.Test.YtapiffkeclnbbaaDoorProg
import Derived.Below
import Derived.Deep.Draws
import Derived.Deep.AppendLies
import Derived.Maps.AppendAt
import Derived.OwnWalk
import Derived.Laws.MakeOwn
import Derived.Laws.OwnMore
import Derived.Deep.OwnRows
import Derived.Tactics
import Derived.Laws.Slices
import Derived.WalkKit
import Derived.KernelRfl
import Derived.RowKit3
import Derived.Deep.LoopGhost
import Derived.Deep.QuietTactic
import Derived.BigQuiet
import Derived.WideLaws
import Derived.Deep.DeepCutAuto
import Derived.Deep.CutBlock
import Derived.Deep.RegionHeld3
import Derived.Deep.RegionWith
import Derived.Deep.RegionLaw
import Derived.Laws.Rows
import Derived.ArgAppend
import Derived.OrdersHeld
import Derived.Laws.BitsLemmas
import Derived.Laws.StructEq
import Derived.RowKit
import Derived.Lib.Hide
import Derived.Lib.SliceRun
import Derived.StillTail
import Derived.Laws.CopyOwn
import Derived.Test.YtapiffkeclnbbaaDoorB0
import Derived.Test.YtapiffkeclnbbaaDoorB1
import Derived.Test.YtapiffkeclnbbaaDoorB2
import Derived.Test.YtapiffkeclnbbaaDoorB3
import Derived.Test.YtapiffkeclnbbaaDoorB4
import Derived.Test.YtapiffkeclnbbaaDoorS1
import Derived.Test.YtapiffkeclnbbaaDoorS2
import Derived.Test.YtapiffkeclnbbaaDoorS3
import Derived.Test.YtapiffkeclnbbaaDoorS4
import Derived.Test.YtapiffkeclnbbaaDoorS5
import Derived.Test.YtapiffkeclnbbaaDoorS6
/-! kedgelaw15.awake. -/
set_option linter.unusedVariables false
set_option linter.unusedSimpArgs false
namespace Go.Proofs.YtapiffkeclnbbaaDoor.S
open Go.RowKit Go.Proofs.YtapiffkeclnbbaaDoor.B0
theorem wpList_load_g {ops : Array Oper} {rest : List Oper} {o : Oper} {a : Act} {w : World} {Q : Exit → Act → World → Prop} (ty : TypeId) (x : Operand) (ho : o.op = .load ty x)
    (g : Nat) (hx : a.eval x = .pointer (some ⟨g, 0, none⟩)) {t : TypeId} {cs : Array Value} (hw : Region.wanted o (yielded ops a.tmps) = true) {fs : Array Field} (hg : Blk w g t cs)
    (hu : Tryd.prog.underlying ty = some (.struct fs)) (hi : (Tryd.prog.info? ty).map (·.size) = some cs.size)
    (h : wpList Tryd.prog ops Q rest (a.put o.dst (.agg cs)) w) : wpList Tryd.prog ops Q (o :: rest) a w :=
  wpList_step fun K hK => by
    rw [if_pos hw]
    exact wp_load_row ty x ho g hx t cs (0, 0) _ hg hu rfl hi (hK _ _ h)
def wx0 : List Int := [18446744073709551615, 4]
def wc0 : List Int := newC wx0
def wc1 : List Int := bumpC wc0 0 1
def wc2 : List Int := bumpC wc1 1 3
theorem wc0_ok : okC wc0 := okC_new (by
  intro x hx
  simp only [wx0, List.mem_cons, List.not_mem_nil, or_false] at hx
  rcases hx with rfl | rfl <;> simp [okU])
theorem okC_bump {c : List Int} (h : okC c) (k n : Int) (hn : n < 9223372036854775808) : okC (bumpC c k n) := by
  unfold bumpC
  split
  · rename_i hk
    exact okC_set h _ (addV_ok (okC_get h _) ⟨by omega, by omega⟩)
  · exact h
theorem wc1_ok : okC wc1 := okC_bump wc0_ok _ _ (by omega)
theorem wc2_ok : okC wc2 := okC_bump wc1_ok _ _ (by omega)
theorem wg0 : getC wc2 0 = 18446744073709551615 := by decide
theorem wg1 : getC wc2 1 = 7 := by decide
theorem wn1 : nameC 1 = ⟨#[104, 105, 116, 115]⟩ := by rfl
set_option maxHeartbeats 1000000 in
set_option maxRecDepth 100000 in
theorem law_awake (w : World) (hsp : Sp w) : Calls Tryd.prog 8 #[] w fun e w' => e = .returned (.bool true) ∧ Kept w w' := by
  have hu := Tryd.underlying28
  have H1 := Lib.hid (vC_one wc1)
  have H2 := Lib.hid (vC_one wc2)
  have S1 := Lib.hid (size28 (sizeC wc1_ok))
  have S2 := Lib.hid (size28 (sizeC wc2_ok))
  have Z1 := Lib.hid (sizeC wc1_ok)
  have Z2 := Lib.hid (sizeC wc2_ok)
  have HS := Lib.hid hsp
  clear hsp
  go_enter Tryd.func8, Tryd.ntmps8
  go_wp2_with fail
  refine (stats_New _ 2 2 wx0 rfl _ (.inr ⟨w.heap.size, 0, rfl, by simp, fun i x hx => by
    have h := (Blk.new w 25 #[.int .u64 18446744073709551615, .int .u64 4]).cell (0 + i)
    rw [h]
    match i, hx with
    | 0, hx => simp [wx0] at hx; subst hx; rfl
    | 1, hx => simp [wx0] at hx; subst hx; rfl
    | i + 2, hx => simp [wx0] at hx⟩)).mono ?_
  rintro e w1 ⟨rfl, hb1⟩
  have hK1 := ((Kept.refl w).alloc _).call hb1.out
  clear hb1
  go_wp2_with fail
  refine (stats_Bump wc0 0 1 wc0_ok (by omega) _).mono ?_
  rintro e w2 ⟨rfl, hb2⟩
  have hK2 := hK1.call hb2.out
  clear hb2 hK1
  go_wp2_with (first
    | (refine wpList_store_row rfl 28 (.tmp 1) (.tmp 5) rfl w2.heap.size (vC wc1) rfl rfl 28 z17 (Blk.new w2 _ _).out S1.out (by rw [Z1.out]; rfl) H1.out ?_)
    | (refine wpList_load_row rfl 28 (.tmp 1) rfl w2.heap.size rfl 28 (vC wc1) (0, 0) _ (blk_row _ (Blk.new w2 _ _)).out Tryd.underlying28 rfl S1.out ?_))
  obtain ⟨W3, hW3⟩ : ∃ W3, (w2.alloc (.cells z17 28)).setRow w2.heap.size (vC wc1) = W3 := ⟨_, rfl⟩
  have hK3 : Kept w W3 := hW3 ▸ kept_row (hK2.alloc _) _ hK2.size
  refine (stats_Bump wc1 1 3 wc1_ok (by omega) _).mono ?_
  rintro e w4 ⟨rfl, hb4⟩
  rw [show (w2.alloc (.cells #[.int .u64 0, .int .u64 0, .int .u64 0, .int .u64 0, .int .u64 0, .int .u64 0, .int .u64 0, .int .u64 0, .int .u64 0, .int .u64 0, .int .u64 0, .int .u64 0, .int .u64 0, .int .u64 0, .int .u64 0, .int .u64 0, .int .u64 0] 28)).setRow w2.heap.size (vC wc1) = W3 from hW3] at hb4
  have hK4 := hK3.call hb4.out
  clear hb4 hK3 hW3
  go_wp2_with (first
    | (refine wpList_store_row rfl 28 (.tmp 2) (.tmp 7) rfl w4.heap.size (vC wc2) rfl rfl 28 z17 (Blk.new w4 _ _).out S2.out (by rw [Z2.out]; rfl) H2.out ?_)
    | (refine wpList_load_row rfl 28 (.tmp 2) rfl w4.heap.size rfl 28 (vC wc2) (0, 0) _ (blk_row _ (Blk.new w4 _ _)).out Tryd.underlying28 rfl S2.out ?_))
  have BW := blk_row (vC wc2) (Blk.new w4 28 z17)
  have hK5 : Kept w ((w4.alloc (.cells z17 28)).setRow w4.heap.size (vC wc2)) := kept_row (hK4.alloc _) _ hK4.size
  refine (stats_Get wc2 0 wc2_ok _).mono ?_
  rintro e w6 ⟨rfl, hb6⟩
  have B6 := Lib.hid (BW.call hb6.out)
  have hK6 := hK5.call hb6.out
  clear hb6 BW hK5
  rw [wg0]
  go_wp2_with (first
    | (refine wpList_load_g 28 (.tmp 2) rfl w4.heap.size rfl rfl B6.out Tryd.underlying28 S2.out ?_)
    | fail)
  refine (stats_Get wc2 1 wc2_ok _).mono ?_
  rintro e w7 ⟨rfl, hb7⟩
  have hK7 := hK6.call hb7.out
  have HS7 := HS.out.kept hK7
  have HS7 := Lib.hid HS7
  clear hb7
  rw [wg1]
  go_wp2_with fail
  refine (stats_Name 1 _ HS7.out).mono ?_
  rintro e w8 ⟨rfl, hb8⟩
  have hK8 := hK7.call hb8.out
  clear hb8
  rw [wn1]
  go_wp2_with fail
  go_ret
  exact ⟨rfl, hK8⟩
end Go.Proofs.YtapiffkeclnbbaaDoor.S
