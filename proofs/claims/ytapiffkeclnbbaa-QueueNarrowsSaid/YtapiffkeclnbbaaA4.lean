import Derived.Test.YtapiffkeclnbbaaProg
import Derived.Below
import Derived.Deep.Draws
import Derived.Deep.AppendLies
import Derived.Maps.AppendAt
import Derived.OwnWalk
import Derived.Laws.MakeOwn
import Derived.Laws.OwnMore
import Derived.Deep.OwnRows
import Derived.Tactics
import Derived.Laws.Slices
import Derived.WalkKit
import Derived.KernelRfl
import Derived.RowKit3
import Derived.Deep.LoopGhost
import Derived.Deep.QuietTactic
import Derived.BigQuiet
import Derived.WideLaws
import Derived.Deep.DeepCutAuto
import Derived.Deep.CutBlock
import Derived.Deep.RegionHeld3
import Derived.Deep.RegionWith
import Derived.Deep.RegionLaw
import Derived.Laws.Rows
import Derived.ArgAppend
import Derived.OrdersHeld
import Derived.Laws.BitsLemmas
import Derived.Laws.StructEq
import Derived.RowKit
import Derived.Lib.Hide
import Derived.Lib.SliceRun
import Derived.StillTail
import Derived.Test.YtapiffkeclnbbaaB0
import Derived.Test.YtapiffkeclnbbaaB1
import Derived.Test.YtapiffkeclnbbaaB2
import Derived.Test.YtapiffkeclnbbaaB3
import Derived.Test.YtapiffkeclnbbaaB4
import Derived.Test.YtapiffkeclnbbaaA1
import Derived.Test.YtapiffkeclnbbaaA2
import Derived.Test.YtapiffkeclnbbaaA3
set_option linter.unusedVariables false
set_option linter.unusedSimpArgs false
namespace Go.Proofs.Ytapiffkeclnbbaa.A2
open Go.RowKit Go.Proofs.Ytapiffkeclnbbaa.B0 Go.Proofs.Ytapiffkeclnbbaa.A1
attribute [local go_sem] max2_mx min2_mn maxOf2 minOf2 minOf3
attribute [local go_sem high] eqA34 eqA36 eqA38
attribute [local irreducible] wpQuiet

theorem addr_Width' (v : Bool) (w : World) : Calls Try.prog 101 #[.bool v] w fun e w' => e = .returned (.int .i64 (wid v)) ∧ Kept w w' :=
  (addr_Width v w).mono fun _ _ h => ⟨h.1, h.2 ▸ Kept.refl _⟩

theorem sanP_n {p : PrefV} (h : sanP p = true) : 0 ≤ p.n ∧ p.n ≤ wid p.a.v := by
  have hn : p.n = (ofP p.a p.n).n := by
    simp only [sanP, eqP, Bool.and_eq_true, beq_iff_eq] at h
    exact h.2
  have hm := mxmn_bd p.n p.a.v
  rw [hn]
  exact hm

/-- one digit more -/
def chiP (p : PrefV) (x : Int) : PrefV := ⟨setA p.a p.n x, p.n + 1⟩
def hasP (p : PrefV) : Bool := sanP p && !(p.n == wid p.a.v)

set_option maxHeartbeats 400000 in
set_option maxRecDepth 100000 in
theorem prefix_Child_insane (p : PrefV) (x : Int) (w : World) (hs : sanP p = false) : Calls Try.prog 64 #[.agg #[.int .u64 p.a.h, .int .u64 p.a.l, .bool p.a.v, .int .i64 p.n], .int .i64 x] w fun e w' => e = .returned (.tuple #[.agg #[.int .u64 0, .int .u64 0, .bool false, .int .i64 0], .bool false]) ∧ Kept w w' := by
  obtain ⟨⟨h, l, v⟩, n⟩ := p
  have hu := Try.underlying34
  have hu2 := Try.underlying36
  have Hs := Lib.hid hs
  clear hs
  go_enter Try.func64, Try.ntmps64
  go_wp2_with fail
  obtain ⟨W, hW⟩ : ∃ W, (w.alloc (.cells #[.int .u64 h, .int .u64 l, .bool v, .int .i64 n] 36)).alloc (.cells #[.int .u64 0, .int .u64 0, .bool false, .int .i64 0] 36) = W := ⟨_, rfl⟩
  have B0 : Blk W w.heap.size 36 #[.int .u64 h, .int .u64 l, .bool v, .int .i64 n] := hW ▸ (Blk.new _ _ _).alloc _
  have B1 : Blk W (w.heap.size + 1) 36 #[.int .u64 0, .int .u64 0, .bool false, .int .i64 0] := hW ▸ Blk.new2 _ _ _ _
  have hK : Kept w W := hW ▸ ((Kept.refl _).alloc _).alloc _
  rw [hW]
  clear hW
  refine wp_region_quiet (C := fun W' => Blk W' (w.heap.size) 36 #[.int .u64 h, .int .u64 l, .bool v, .int .i64 n] ∧ Blk W' (w.heap.size + 1) 36 #[.int .u64 0, .int .u64 0, .bool false, .int .i64 0] ∧ Kept w W') (by kernel_rfl) (by kernel_rfl) ⟨B0.drew, B1.drew, hK.drew⟩ ?_
  go_simp
  repeat (first
    | (apply q_val; rfl; (intro W hC; obtain ⟨b0, b1, hk⟩ := hC; have k0 := b0.cell; have k1 := b1.cell; clear b0 b1 hk; go_simp; rfl); go_simp)
    | (refine q_off rfl ?_; go_simp)
    | (apply q_call (f := 46); rfl; (intro W hC; go_simp; rfl); (intro W hC; (with_reducible refine (prefix_Sane_is ⟨⟨_, _, _⟩, _⟩ _ Hs.out).mono ?_); rintro e w1 ⟨rfl, hb1⟩; refine ⟨?_, hC.1.call hb1.out, hC.2.1.call hb1.out, hC.2.2.call hb1.out⟩; rfl); go_simp))
  refine q_end ?_
  intro W1 B0_ B1_ hK1
  obtain ⟨c1, f1⟩ := B1_.facts
  go_wp2
  exact ret_blk_tmp rfl rfl ((((B1_.put 0 _ rfl).put 1 _ rfl).put 2 _ rfl).put 3 _ rfl) hu2 rfl (by kernel_rfl) rfl ⟨rfl, ((((hK1.set (by omega)).set (by omega)).set (by omega)).set (by omega))⟩

set_option maxHeartbeats 400000 in
set_option maxRecDepth 100000 in
theorem prefix_Child_end (p : PrefV) (x : Int) (w : World) (hs : sanP p = true) (hn : (p.n == wid p.a.v) = true) : Calls Try.prog 64 #[.agg #[.int .u64 p.a.h, .int .u64 p.a.l, .bool p.a.v, .int .i64 p.n], .int .i64 x] w fun e w' => e = .returned (.tuple #[.agg #[.int .u64 0, .int .u64 0, .bool false, .int .i64 0], .bool false]) ∧ Kept w w' := by
  obtain ⟨⟨h, l, v⟩, n⟩ := p
  have hu := Try.underlying34
  have hu2 := Try.underlying36
  have Hs := Lib.hid hs
  clear hs
  go_enter Try.func64, Try.ntmps64
  go_wp2_with fail
  obtain ⟨W, hW⟩ : ∃ W, (w.alloc (.cells #[.int .u64 h, .int .u64 l, .bool v, .int .i64 n] 36)).alloc (.cells #[.int .u64 0, .int .u64 0, .bool false, .int .i64 0] 36) = W := ⟨_, rfl⟩
  have B0 : Blk W w.heap.size 36 #[.int .u64 h, .int .u64 l, .bool v, .int .i64 n] := hW ▸ (Blk.new _ _ _).alloc _
  have B1 : Blk W (w.heap.size + 1) 36 #[.int .u64 0, .int .u64 0, .bool false, .int .i64 0] := hW ▸ Blk.new2 _ _ _ _
  have hK : Kept w W := hW ▸ ((Kept.refl _).alloc _).alloc _
  rw [hW]
  clear hW
  refine wp_region_quiet (C := fun W' => Blk W' (w.heap.size) 36 #[.int .u64 h, .int .u64 l, .bool v, .int .i64 n] ∧ Blk W' (w.heap.size + 1) 36 #[.int .u64 0, .int .u64 0, .bool false, .int .i64 0] ∧ Kept w W') (by kernel_rfl) (by kernel_rfl) ⟨B0.drew, B1.drew, hK.drew⟩ ?_
  go_simp
  repeat (first
    | (apply q_val; rfl; (intro W hC; obtain ⟨b0, b1, hk⟩ := hC; have k0 := b0.cell; have k1 := b1.cell; clear b0 b1 hk; go_simp; rfl); go_simp)
    | (refine q_off rfl ?_; go_simp)
    | (apply q_call (f := 46); rfl; (intro W hC; go_simp; rfl); (intro W hC; (with_reducible refine (prefix_Sane_is ⟨⟨_, _, _⟩, _⟩ _ Hs.out).mono ?_); rintro e w1 ⟨rfl, hb1⟩; refine ⟨?_, hC.1.call hb1.out, hC.2.1.call hb1.out, hC.2.2.call hb1.out⟩; rfl); go_simp)
    | (apply q_call (f := 101); rfl; (intro W hC; go_simp; rfl); (intro W hC; (with_reducible refine (addr_Width' _ _).mono ?_); rintro e w1 ⟨rfl, hb1⟩; refine ⟨?_, hC.1.call hb1.out, hC.2.1.call hb1.out, hC.2.2.call hb1.out⟩; rfl); go_simp))
  refine q_end ?_
  intro W1 B0_ B1_ hK1
  obtain ⟨c1, f1⟩ := B1_.facts
  go_wp2
  exact ret_blk_tmp rfl rfl ((((B1_.put 0 _ rfl).put 1 _ rfl).put 2 _ rfl).put 3 _ rfl) hu2 rfl (by kernel_rfl) rfl ⟨rfl, ((((hK1.set (by omega)).set (by omega)).set (by omega)).set (by omega))⟩

set_option maxHeartbeats 400000 in
set_option maxRecDepth 100000 in
theorem prefix_Child_has (p : PrefV) (x : Int) (w : World) (hs : sanP p = true) (hn : (p.n == wid p.a.v) = false) : Calls Try.prog 64 #[.agg #[.int .u64 p.a.h, .int .u64 p.a.l, .bool p.a.v, .int .i64 p.n], .int .i64 x] w fun e w' => e = .returned (.tuple #[.agg #[.int .u64 (chiP p x).a.h, .int .u64 (chiP p x).a.l, .bool (chiP p x).a.v, .int .i64 (chiP p x).n], .bool true]) ∧ Kept w w' := by
  obtain ⟨⟨h, l, v⟩, n⟩ := p
  have hu := Try.underlying34
  have hu2 := Try.underlying36
  have hb := sanP_n hs
  have hw := wid_bd v
  have hwr : IntKind.i64.wrap (n + 1) = n + 1 := by
    have : n ≤ wid v := hb.2
    have : 0 ≤ n := hb.1
    rw [IntKind.wrap_i64]; omega
  clear hb hw
  have Hs := Lib.hid hs
  clear hs
  go_enter Try.func64, Try.ntmps64
  go_wp2_with fail
  obtain ⟨W, hW⟩ : ∃ W, (w.alloc (.cells #[.int .u64 h, .int .u64 l, .bool v, .int .i64 n] 36)).alloc (.cells #[.int .u64 0, .int .u64 0, .bool false, .int .i64 0] 36) = W := ⟨_, rfl⟩
  have B0 : Blk W w.heap.size 36 #[.int .u64 h, .int .u64 l, .bool v, .int .i64 n] := hW ▸ (Blk.new _ _ _).alloc _
  have B1 : Blk W (w.heap.size + 1) 36 #[.int .u64 0, .int .u64 0, .bool false, .int .i64 0] := hW ▸ Blk.new2 _ _ _ _
  have hK : Kept w W := hW ▸ ((Kept.refl _).alloc _).alloc _
  rw [hW]
  clear hW
  refine wp_region_quiet (C := fun W' => Blk W' (w.heap.size) 36 #[.int .u64 h, .int .u64 l, .bool v, .int .i64 n] ∧ Blk W' (w.heap.size + 1) 36 #[.int .u64 0, .int .u64 0, .bool false, .int .i64 0] ∧ Kept w W') (by kernel_rfl) (by kernel_rfl) ⟨B0.drew, B1.drew, hK.drew⟩ ?_
  go_simp
  repeat (first
    | (apply q_val; rfl; (intro W hC; obtain ⟨b0, b1, hk⟩ := hC; have k0 := b0.cell; have k1 := b1.cell; clear b0 b1 hk; go_simp; rfl); go_simp)
    | (refine q_off rfl ?_; go_simp)
    | (apply q_call (f := 46); rfl; (intro W hC; go_simp; rfl); (intro W hC; (with_reducible refine (prefix_Sane_is ⟨⟨_, _, _⟩, _⟩ _ Hs.out).mono ?_); rintro e w1 ⟨rfl, hb1⟩; refine ⟨?_, hC.1.call hb1.out, hC.2.1.call hb1.out, hC.2.2.call hb1.out⟩; rfl); go_simp)
    | (apply q_call (f := 101); rfl; (intro W hC; go_simp; rfl); (intro W hC; (with_reducible refine (addr_Width' _ _).mono ?_); rintro e w1 ⟨rfl, hb1⟩; refine ⟨?_, hC.1.call hb1.out, hC.2.1.call hb1.out, hC.2.2.call hb1.out⟩; rfl); go_simp))
  refine q_end ?_
  intro W1 B0_ B1_ hK1
  obtain ⟨c0, f0⟩ := B0_.facts
  obtain ⟨c1, f1⟩ := B1_.facts
  go_wp2
  refine wp_region_qtail 10 (C := fun W' => Blk W' (w.heap.size) 36 #[.int .u64 h, .int .u64 l, .bool v, .int .i64 n] ∧ Blk W' (w.heap.size + 1) 36 #[.int .u64 0, .int .u64 0, .bool false, .int .i64 0] ∧ Kept w W') (by kernel_rfl) (by kernel_rfl) ⟨B0_.drew, B1_.drew, hK1.drew⟩ ?_
  go_simp
  repeat (first
    | (apply q_val; rfl; (intro W hC; obtain ⟨b0, b1, hk⟩ := hC; have k0 := b0.cell; have k1 := b1.cell; clear b0 b1 hk; go_simp; rfl); go_simp)
    | (refine q_off rfl ?_; go_simp)
    | (apply q_call (f := 122); rfl; (intro W hC; go_simp; rfl); (intro W hC; (with_reducible refine (addr_Set ⟨_, _, _⟩ _ _ _).mono ?_); rintro e w1 ⟨rfl, hb1⟩; refine ⟨?_, hC.1.call hb1.out, hC.2.1.call hb1.out, hC.2.2.call hb1.out⟩; rfl); go_simp))
  refine q_end ?_
  intro W2 B2_ B3_ hK2
  obtain ⟨c3, f3⟩ := B3_.facts
  go_wp2
  exact ret_blk_tmp rfl rfl ((((B3_.put 0 _ rfl).put 1 _ rfl).put 2 _ rfl).put 3 _ rfl) hu2 rfl (by kernel_rfl) rfl ⟨rfl, ((((hK2.set (by omega)).set (by omega)).set (by omega)).set (by omega))⟩

theorem prefix_Child_no (p : PrefV) (x : Int) (w : World) (hs : hasP p = false) : Calls Try.prog 64 #[.agg #[.int .u64 p.a.h, .int .u64 p.a.l, .bool p.a.v, .int .i64 p.n], .int .i64 x] w fun e w' => e = .returned (.tuple #[.agg #[.int .u64 0, .int .u64 0, .bool false, .int .i64 0], .bool false]) ∧ Kept w w' := by
  cases hs' : sanP p with
  | false => exact prefix_Child_insane p x w hs'
  | true => exact prefix_Child_end p x w hs' (by simpa [hasP, hs'] using hs)
theorem prefix_Child_yes (p : PrefV) (x : Int) (w : World) (hs : hasP p = true) : Calls Try.prog 64 #[.agg #[.int .u64 p.a.h, .int .u64 p.a.l, .bool p.a.v, .int .i64 p.n], .int .i64 x] w fun e w' => e = .returned (.tuple #[.agg #[.int .u64 (chiP p x).a.h, .int .u64 (chiP p x).a.l, .bool (chiP p x).a.v, .int .i64 (chiP p x).n], .bool true]) ∧ Kept w w' := by
  simp only [hasP, Bool.and_eq_true, Bool.not_eq_true'] at hs
  exact prefix_Child_has p x w hs.1 hs.2

/-- may a route be? -/
def gooR (r : RouteV) : Bool := decide (0 ≤ r.hop) && (decide (r.hop ≤ 65535) && sanP r.p)

end Go.Proofs.Ytapiffkeclnbbaa.A2
