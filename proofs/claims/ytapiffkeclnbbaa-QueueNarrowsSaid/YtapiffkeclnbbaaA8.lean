import Derived.Test.YtapiffkeclnbbaaProg
import Derived.Below
import Derived.Deep.Draws
import Derived.Deep.AppendLies
import Derived.Maps.AppendAt
import Derived.OwnWalk
import Derived.Laws.MakeOwn
import Derived.Laws.OwnMore
import Derived.Deep.OwnRows
import Derived.Tactics
import Derived.Laws.Slices
import Derived.WalkKit
import Derived.KernelRfl
import Derived.RowKit3
import Derived.Deep.LoopGhost
import Derived.Deep.QuietTactic
import Derived.BigQuiet
import Derived.WideLaws
import Derived.Deep.DeepCutAuto
import Derived.Deep.CutBlock
import Derived.Deep.RegionHeld3
import Derived.Deep.RegionWith
import Derived.Deep.RegionLaw
import Derived.Laws.Rows
import Derived.ArgAppend
import Derived.OrdersHeld
import Derived.Laws.BitsLemmas
import Derived.Laws.StructEq
import Derived.RowKit
import Derived.Lib.Hide
import Derived.Lib.SliceRun
import Derived.StillTail
import Derived.Test.YtapiffkeclnbbaaB0
import Derived.Test.YtapiffkeclnbbaaB1
import Derived.Test.YtapiffkeclnbbaaB2
import Derived.Test.YtapiffkeclnbbaaB3
import Derived.Test.YtapiffkeclnbbaaB4
import Derived.Test.YtapiffkeclnbbaaB7
import Derived.Test.YtapiffkeclnbbaaB8
import Derived.Test.YtapiffkeclnbbaaB9
import Derived.Test.YtapiffkeclnbbaaA1
import Derived.Test.YtapiffkeclnbbaaA2
import Derived.Test.YtapiffkeclnbbaaA3
import Derived.Test.YtapiffkeclnbbaaA7
/-! prefix.Apart. -/
set_option linter.unusedVariables false
set_option linter.unusedSimpArgs false
namespace Go.Proofs.Ytapiffkeclnbbaa.A8
open Go.RowKit Go.Proofs.Ytapiffkeclnbbaa.B0 Go.Proofs.Ytapiffkeclnbbaa.A1 Go.Proofs.Ytapiffkeclnbbaa.A2 Go.Proofs.Ytapiffkeclnbbaa.A7
attribute [local irreducible] wpQuiet
attribute [local go_sem] max2_mx min2_mn maxOf2 minOf2 minOf3
def apaP (p q : PrefV) : Bool := sanP p && (sanP q && (!(p.a.v == q.a.v) || decide (comA p.a q.a < mn p.n q.n)))
set_option maxHeartbeats 1000000 in
set_option maxRecDepth 100000 in
theorem apart_no1 (p q : PrefV) (w : World) (hp : sanP p = false) : Calls Try.prog 45 #[.agg #[.int .u64 p.a.h, .int .u64 p.a.l, .bool p.a.v, .int .i64 p.n], .agg #[.int .u64 q.a.h, .int .u64 q.a.l, .bool q.a.v, .int .i64 q.n]] w fun e w' => e = .returned (.bool false) ∧ Kept w w' := by
  have hu := Try.underlying36
  have hu2 := Try.underlying34
  have Hp := Lib.hid hp
  clear hp
  go_enter Try.func45, Try.ntmps45
  go_wp2_with fail
  obtain ⟨W, hW⟩ : ∃ W, (w.alloc (.cells #[.int .u64 p.a.h, .int .u64 p.a.l, .bool p.a.v, .int .i64 p.n] 36)).alloc (.cells #[.int .u64 q.a.h, .int .u64 q.a.l, .bool q.a.v, .int .i64 q.n] 36) = W := ⟨_, rfl⟩
  have B0 : Blk W w.heap.size 36 #[.int .u64 p.a.h, .int .u64 p.a.l, .bool p.a.v, .int .i64 p.n] := hW ▸ (Blk.new _ _ _).alloc _
  have B1 : Blk W (w.heap.size + 1) 36 #[.int .u64 q.a.h, .int .u64 q.a.l, .bool q.a.v, .int .i64 q.n] := hW ▸ Blk.new2 _ _ _ _
  have hK : Kept w W := hW ▸ ((Kept.refl w).alloc _).alloc _
  rw [hW]
  clear hW
  refine wp_region_quiet (C := fun W' => Blk W' w.heap.size 36 #[.int .u64 p.a.h, .int .u64 p.a.l, .bool p.a.v, .int .i64 p.n] ∧ Blk W' (w.heap.size + 1) 36 #[.int .u64 q.a.h, .int .u64 q.a.l, .bool q.a.v, .int .i64 q.n] ∧ Kept w W') (by kernel_rfl) (by kernel_rfl) ⟨B0.drew, B1.drew, hK.drew⟩ ?_
  go_simp
  repeat (first
    | (apply q_val; rfl; (intro W hC; have k0 := hC.1.cell; have k1 := hC.2.1.cell; clear hC; go_simp; rfl); go_simp)
    | (refine q_off rfl ?_; go_simp)
    | (apply q_call (f := 46) (v := .bool false); rfl; (intro W hC; go_simp; rfl); (intro W hC; (with_reducible refine (prefix_Sane_is p _ Hp.out).mono ?_); rintro e w1 ⟨rfl, hb1⟩; exact ⟨rfl, hC.1.call hb1.out, hC.2.1.call hb1.out, hC.2.2.call hb1.out⟩); go_simp)
    )
  refine q_end ?_
  intro W1 B1 B2 hK1
  clear B1 B2
  go_wp2_with fail
  go_ret
  exact ⟨rfl, hK1⟩
set_option maxHeartbeats 1000000 in
set_option maxRecDepth 100000 in
theorem apart_no2 (p q : PrefV) (w : World) (hp : sanP p = true) (hq : sanP q = false) : Calls Try.prog 45 #[.agg #[.int .u64 p.a.h, .int .u64 p.a.l, .bool p.a.v, .int .i64 p.n], .agg #[.int .u64 q.a.h, .int .u64 q.a.l, .bool q.a.v, .int .i64 q.n]] w fun e w' => e = .returned (.bool false) ∧ Kept w w' := by
  have hu := Try.underlying36
  have hu2 := Try.underlying34
  have Hp := Lib.hid hp
  have Hq := Lib.hid hq
  clear hp hq
  go_enter Try.func45, Try.ntmps45
  go_wp2_with fail
  obtain ⟨W, hW⟩ : ∃ W, (w.alloc (.cells #[.int .u64 p.a.h, .int .u64 p.a.l, .bool p.a.v, .int .i64 p.n] 36)).alloc (.cells #[.int .u64 q.a.h, .int .u64 q.a.l, .bool q.a.v, .int .i64 q.n] 36) = W := ⟨_, rfl⟩
  have B0 : Blk W w.heap.size 36 #[.int .u64 p.a.h, .int .u64 p.a.l, .bool p.a.v, .int .i64 p.n] := hW ▸ (Blk.new _ _ _).alloc _
  have B1 : Blk W (w.heap.size + 1) 36 #[.int .u64 q.a.h, .int .u64 q.a.l, .bool q.a.v, .int .i64 q.n] := hW ▸ Blk.new2 _ _ _ _
  have hK : Kept w W := hW ▸ ((Kept.refl w).alloc _).alloc _
  rw [hW]
  clear hW
  refine wp_region_quiet (C := fun W' => Blk W' w.heap.size 36 #[.int .u64 p.a.h, .int .u64 p.a.l, .bool p.a.v, .int .i64 p.n] ∧ Blk W' (w.heap.size + 1) 36 #[.int .u64 q.a.h, .int .u64 q.a.l, .bool q.a.v, .int .i64 q.n] ∧ Kept w W') (by kernel_rfl) (by kernel_rfl) ⟨B0.drew, B1.drew, hK.drew⟩ ?_
  go_simp
  repeat (first
    | (apply q_val; rfl; (intro W hC; have k0 := hC.1.cell; have k1 := hC.2.1.cell; clear hC; go_simp; rfl); go_simp)
    | (refine q_off rfl ?_; go_simp)
    | (apply q_call (f := 46) (v := .bool true); rfl; (intro W hC; go_simp; rfl); (intro W hC; (with_reducible refine (prefix_Sane_is p _ Hp.out).mono ?_); rintro e w1 ⟨rfl, hb1⟩; exact ⟨rfl, hC.1.call hb1.out, hC.2.1.call hb1.out, hC.2.2.call hb1.out⟩); go_simp)
    | (apply q_call (f := 46) (v := .bool false); rfl; (intro W hC; go_simp; rfl); (intro W hC; (with_reducible refine (prefix_Sane_is q _ Hq.out).mono ?_); rintro e w1 ⟨rfl, hb1⟩; exact ⟨rfl, hC.1.call hb1.out, hC.2.1.call hb1.out, hC.2.2.call hb1.out⟩); go_simp)
    )
  refine q_end ?_
  intro W1 B1 B2 hK1
  clear B1 B2
  go_wp2_with fail
  go_ret
  exact ⟨rfl, hK1⟩
set_option maxHeartbeats 1000000 in
set_option maxRecDepth 100000 in
theorem apart_v (p q : PrefV) (w : World) (hp : sanP p = true) (hq : sanP q = true) (hv : (p.a.v == q.a.v) = false) : Calls Try.prog 45 #[.agg #[.int .u64 p.a.h, .int .u64 p.a.l, .bool p.a.v, .int .i64 p.n], .agg #[.int .u64 q.a.h, .int .u64 q.a.l, .bool q.a.v, .int .i64 q.n]] w fun e w' => e = .returned (.bool true) ∧ Kept w w' := by
  have hu := Try.underlying36
  have hu2 := Try.underlying34
  have Hp := Lib.hid hp
  have Hq := Lib.hid hq
  clear hp hq
  go_enter Try.func45, Try.ntmps45
  go_wp2_with fail
  obtain ⟨W, hW⟩ : ∃ W, (w.alloc (.cells #[.int .u64 p.a.h, .int .u64 p.a.l, .bool p.a.v, .int .i64 p.n] 36)).alloc (.cells #[.int .u64 q.a.h, .int .u64 q.a.l, .bool q.a.v, .int .i64 q.n] 36) = W := ⟨_, rfl⟩
  have B0 : Blk W w.heap.size 36 #[.int .u64 p.a.h, .int .u64 p.a.l, .bool p.a.v, .int .i64 p.n] := hW ▸ (Blk.new _ _ _).alloc _
  have B1 : Blk W (w.heap.size + 1) 36 #[.int .u64 q.a.h, .int .u64 q.a.l, .bool q.a.v, .int .i64 q.n] := hW ▸ Blk.new2 _ _ _ _
  have hK : Kept w W := hW ▸ ((Kept.refl w).alloc _).alloc _
  rw [hW]
  clear hW
  refine wp_region_quiet (C := fun W' => Blk W' w.heap.size 36 #[.int .u64 p.a.h, .int .u64 p.a.l, .bool p.a.v, .int .i64 p.n] ∧ Blk W' (w.heap.size + 1) 36 #[.int .u64 q.a.h, .int .u64 q.a.l, .bool q.a.v, .int .i64 q.n] ∧ Kept w W') (by kernel_rfl) (by kernel_rfl) ⟨B0.drew, B1.drew, hK.drew⟩ ?_
  go_simp
  repeat (first
    | (apply q_val; rfl; (intro W hC; have k0 := hC.1.cell; have k1 := hC.2.1.cell; clear hC; go_simp; rfl); go_simp)
    | (refine q_off rfl ?_; go_simp)
    | (apply q_call (f := 46) (v := .bool true); rfl; (intro W hC; go_simp; rfl); (intro W hC; (with_reducible refine (prefix_Sane_is p _ Hp.out).mono ?_); rintro e w1 ⟨rfl, hb1⟩; exact ⟨rfl, hC.1.call hb1.out, hC.2.1.call hb1.out, hC.2.2.call hb1.out⟩); go_simp)
    | (apply q_call (f := 46) (v := .bool true); rfl; (intro W hC; go_simp; rfl); (intro W hC; (with_reducible refine (prefix_Sane_is q _ Hq.out).mono ?_); rintro e w1 ⟨rfl, hb1⟩; exact ⟨rfl, hC.1.call hb1.out, hC.2.1.call hb1.out, hC.2.2.call hb1.out⟩); go_simp)
    )
  refine q_end ?_
  intro W1 B1 B2 hK1
  clear B1 B2
  go_wp2_with fail
  go_ret
  exact ⟨rfl, hK1⟩
set_option maxHeartbeats 1000000 in
set_option maxRecDepth 100000 in
theorem apart_n (p q : PrefV) (w : World) (hp : sanP p = true) (hq : sanP q = true) (hv : (p.a.v == q.a.v) = true) : Calls Try.prog 45 #[.agg #[.int .u64 p.a.h, .int .u64 p.a.l, .bool p.a.v, .int .i64 p.n], .agg #[.int .u64 q.a.h, .int .u64 q.a.l, .bool q.a.v, .int .i64 q.n]] w fun e w' => e = .returned (.bool (decide (comA p.a q.a < mn p.n q.n))) ∧ Kept w w' := by
  have hu := Try.underlying36
  have hu2 := Try.underlying34
  have Hp := Lib.hid hp
  have Hq := Lib.hid hq
  clear hp hq
  go_enter Try.func45, Try.ntmps45
  go_wp2_with fail
  obtain ⟨W, hW⟩ : ∃ W, (w.alloc (.cells #[.int .u64 p.a.h, .int .u64 p.a.l, .bool p.a.v, .int .i64 p.n] 36)).alloc (.cells #[.int .u64 q.a.h, .int .u64 q.a.l, .bool q.a.v, .int .i64 q.n] 36) = W := ⟨_, rfl⟩
  have B0 : Blk W w.heap.size 36 #[.int .u64 p.a.h, .int .u64 p.a.l, .bool p.a.v, .int .i64 p.n] := hW ▸ (Blk.new _ _ _).alloc _
  have B1 : Blk W (w.heap.size + 1) 36 #[.int .u64 q.a.h, .int .u64 q.a.l, .bool q.a.v, .int .i64 q.n] := hW ▸ Blk.new2 _ _ _ _
  have hK : Kept w W := hW ▸ ((Kept.refl w).alloc _).alloc _
  rw [hW]
  clear hW
  refine wp_region_quiet (C := fun W' => Blk W' w.heap.size 36 #[.int .u64 p.a.h, .int .u64 p.a.l, .bool p.a.v, .int .i64 p.n] ∧ Blk W' (w.heap.size + 1) 36 #[.int .u64 q.a.h, .int .u64 q.a.l, .bool q.a.v, .int .i64 q.n] ∧ Kept w W') (by kernel_rfl) (by kernel_rfl) ⟨B0.drew, B1.drew, hK.drew⟩ ?_
  go_simp
  repeat (first
    | (apply q_val; rfl; (intro W hC; have k0 := hC.1.cell; have k1 := hC.2.1.cell; clear hC; go_simp; rfl); go_simp)
    | (refine q_off rfl ?_; go_simp)
    | (apply q_call (f := 46) (v := .bool true); rfl; (intro W hC; go_simp; rfl); (intro W hC; (with_reducible refine (prefix_Sane_is p _ Hp.out).mono ?_); rintro e w1 ⟨rfl, hb1⟩; exact ⟨rfl, hC.1.call hb1.out, hC.2.1.call hb1.out, hC.2.2.call hb1.out⟩); go_simp)
    | (apply q_call (f := 46) (v := .bool true); rfl; (intro W hC; go_simp; rfl); (intro W hC; (with_reducible refine (prefix_Sane_is q _ Hq.out).mono ?_); rintro e w1 ⟨rfl, hb1⟩; exact ⟨rfl, hC.1.call hb1.out, hC.2.1.call hb1.out, hC.2.2.call hb1.out⟩); go_simp)
    | (apply q_call (f := 109) (v := .int .i64 (comA p.a q.a)); rfl; (intro W hC; go_simp; rfl); (intro W hC; (with_reducible refine (addr_Common p.a q.a _).mono ?_); rintro e w1 ⟨rfl, hb1⟩; exact ⟨rfl, hC.1.call hb1.out, hC.2.1.call hb1.out, hC.2.2.call hb1.out⟩); go_simp)
    )
  refine q_end ?_
  intro W1 B1 B2 hK1
  clear B1 B2
  go_wp2_with fail
  go_ret
  exact ⟨rfl, hK1⟩
theorem prefix_Apart (p q : PrefV) (w : World) : Calls Try.prog 45 #[.agg #[.int .u64 p.a.h, .int .u64 p.a.l, .bool p.a.v, .int .i64 p.n], .agg #[.int .u64 q.a.h, .int .u64 q.a.l, .bool q.a.v, .int .i64 q.n]] w fun e w' => e = .returned (.bool (apaP p q)) ∧ Kept w w' := by
  unfold apaP
  cases hp : sanP p with
  | false => exact apart_no1 p q w hp
  | true =>
    cases hq : sanP q with
    | false => exact apart_no2 p q w hp hq
    | true =>
      cases hv : (p.a.v == q.a.v) with
      | false => exact apart_v p q w hp hq hv
      | true => simpa using apart_n p q w hp hq hv
theorem prefix_Apart_is {b : Bool} (p q : PrefV) (w : World) (h : apaP p q = b) : Calls Try.prog 45 #[.agg #[.int .u64 p.a.h, .int .u64 p.a.l, .bool p.a.v, .int .i64 p.n], .agg #[.int .u64 q.a.h, .int .u64 q.a.l, .bool q.a.v, .int .i64 q.n]] w fun e w' => e = .returned (.bool b) ∧ Kept w w' := h ▸ prefix_Apart p q w
end Go.Proofs.Ytapiffkeclnbbaa.A8
