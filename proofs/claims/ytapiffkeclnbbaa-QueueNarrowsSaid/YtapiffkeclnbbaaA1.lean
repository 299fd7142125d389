import Derived.Test.YtapiffkeclnbbaaProg
import Derived.Below
import Derived.Deep.Draws
import Derived.Deep.AppendLies
import Derived.Maps.AppendAt
import Derived.OwnWalk
import Derived.Laws.MakeOwn
import Derived.Laws.OwnMore
import Derived.Deep.OwnRows
import Derived.Tactics
import Derived.Laws.Slices
import Derived.WalkKit
import Derived.KernelRfl
import Derived.RowKit3
import Derived.Deep.LoopGhost
import Derived.Deep.QuietTactic
import Derived.BigQuiet
import Derived.WideLaws
import Derived.Deep.DeepCutAuto
import Derived.Deep.CutBlock
import Derived.Deep.RegionHeld3
import Derived.Deep.RegionWith
import Derived.Deep.RegionLaw
import Derived.Laws.Rows
import Derived.ArgAppend
import Derived.OrdersHeld
import Derived.Laws.BitsLemmas
import Derived.Laws.StructEq
import Derived.RowKit
import Derived.Lib.Hide
import Derived.Lib.SliceRun
import Derived.StillTail
import Derived.Test.YtapiffkeclnbbaaB0
namespace Go.Proofs.Ytapiffkeclnbbaa.A1
open Go.RowKit Go.Proofs.Ytapiffkeclnbbaa.B0
attribute [local go_sem] max2_mx min2_mn maxOf2 minOf2 minOf3

set_option maxHeartbeats 400000 in
theorem addr_of (h l : Int) (v : Bool) (w : World) : Calls Try.prog 139 #[.agg #[.int .u64 h, .int .u64 l], .bool v] w fun e w' => e = .returned (.agg #[.int .u64 h, .int .u64 l, .bool v]) ∧ Kept w w' := by
  have hu := Try.underlying34
  have hu2 := Try.underlying207
  go_enter Try.func139, Try.ntmps139
  go_wp2
  exact ret_blk rfl rfl (Blk.new2 w _ _ _) hu rfl (by kernel_rfl) rfl ⟨rfl, ((Kept.refl _).alloc _).alloc _⟩

/-- the word whose first n digits are 1 -/
def highV (n : Int) : Int := if n = 0 then 0 else IntKind.u64.wrap (18446744073709551615 * 2 ^ (64 - n).toNat)

set_option maxHeartbeats 400000 in
theorem addr_high (n : Int) (w : World) (h0 : 0 ≤ n) (h1 : n ≤ 64) : Calls Try.prog 183 #[.int .i64 n] w fun e w' => e = .returned (.int .u64 (highV n)) ∧ w' = w := by
  by_cases hn : n = 0
  · subst hn
    go_enter Try.func183, Try.ntmps183
    go_wp2
    go_ret
    exact ⟨rfl, rfl⟩
  · have hb : (n == 0) = false := beq_eq_false_iff_ne.2 hn
    have hd : decide (0 ≤ IntKind.u64.wrap (64 - n)) = true := by
      rw [wrap_u64]; exact decide_eq_true (by omega)
    have hf : highV n = IntKind.u64.wrap (18446744073709551615 * 2 ^ (64 - n).toNat) := if_neg hn
    have Hf := Lib.hid hf
    clear hf hn
    go_enter Try.func183, Try.ntmps183
    go_wp2
    go_ret
    exact ⟨by simp [Hf.out], rfl⟩

def cl (x : Int) : Int := mx 0 (mn x 64)
theorem cl_bd (x : Int) : 0 ≤ cl x ∧ cl x ≤ 64 := by unfold cl mx mn; split <;> split <;> omega
/-- word number k of 'ones' -/
def onesW (k a b : Int) : Int := Go.bits .andNot .u64 (highV (cl (b - 64 * k))) (highV (cl (a - 64 * k)))
theorem onesW_0 (a b : Int) : onesW 0 a b = Go.bits .andNot .u64 (highV (mx 0 (mn b 64))) (highV (mx 0 (mn a 64))) := by simp [onesW, cl]
theorem onesW_1 (a b : Int) : onesW 1 a b = Go.bits .andNot .u64 (highV (mx 0 (mn (b - 64) 64))) (highV (mx 0 (mn (a - 64) 64))) := by simp [onesW, cl]

set_option maxHeartbeats 400000 in
set_option maxRecDepth 100000 in
theorem addr_ones (a b : Int) (w : World) (ha : 0 ≤ a) (hb : 0 ≤ b) (ha1 : a ≤ 128) (hb1 : b ≤ 128) : Calls Try.prog 166 #[.int .i64 a, .int .i64 b] w fun e w' => e = .returned (.agg #[.int .u64 (onesW 0 a b), .int .u64 (onesW 1 a b)]) ∧ Kept w w' := by
  have hu2 := Try.underlying207
  go_enter Try.func166, Try.ntmps166
  go_wp2
  refine wp_loop_rounds 3 ?_
  rw [rounds_succ]
  go_wp2_with fail
  refine (addr_high _ _ (cl_bd _).1 (cl_bd _).2).mono ?_
  rintro e w' ⟨rfl, rfl⟩
  go_wp2_with fail
  refine (addr_high _ _ (cl_bd _).1 (cl_bd _).2).mono ?_
  rintro e w' ⟨rfl, rfl⟩
  go_wp2_with fail
  rw [rounds_succ]
  go_wp2_with fail
  refine (addr_high _ _ (cl_bd _).1 (cl_bd _).2).mono ?_
  rintro e w' ⟨rfl, rfl⟩
  go_wp2_with fail
  refine (addr_high _ _ (cl_bd _).1 (cl_bd _).2).mono ?_
  rintro e w' ⟨rfl, rfl⟩
  go_wp2_with fail
  rw [rounds_succ]
  go_wp2_with fail
  rw [onesW_0, onesW_1]
  exact ret_blk rfl rfl ((Blk.new w _ _).alloc _) hu2 rfl (by kernel_rfl) rfl ⟨rfl, ((Kept.refl _).alloc _).alloc _⟩

def wid (v : Bool) : Int := if v = true then 128 else 32
theorem wid_bd (v : Bool) : 0 ≤ wid v ∧ wid v ≤ 128 := by unfold wid; split <;> omega

set_option maxHeartbeats 400000 in
theorem addr_Width (v : Bool) (w : World) : Calls Try.prog 101 #[.bool v] w fun e w' => e = .returned (.int .i64 (wid v)) ∧ w' = w := by
  cases v <;>
  · go_enter Try.func101, Try.ntmps101
    go_wp2
    go_ret
    exact ⟨rfl, rfl⟩

theorem idx0 (x y : Value) (w : World) : (Instr.index 207 (.agg #[x, y]) (.int .i64 0)).run Try.prog w = .ok x w := by kernel_rfl
theorem idx1 (x y : Value) (w : World) : (Instr.index 207 (.agg #[x, y]) (.int .i64 1)).run Try.prog w = .ok y w := by kernel_rfl
/-- the words of an address, without what is no digit of it -/
def readH (h : Int) (v : Bool) : Int := Go.bits .and .u64 h (onesW 0 0 (wid v))
def readL (l : Int) (v : Bool) : Int := Go.bits .and .u64 l (onesW 1 0 (wid v))

set_option maxHeartbeats 400000 in
set_option maxRecDepth 100000 in
theorem addr_read (h l : Int) (v : Bool) (w : World) : Calls Try.prog 149 #[.agg #[.int .u64 h, .int .u64 l, .bool v]] w fun e w' => e = .returned (.agg #[.int .u64 (readH h v), .int .u64 (readL l v)]) ∧ Kept w w' := by
  have hu := Try.underlying34
  have hu2 := Try.underlying207
  have hw := wid_bd v
  have i0 := idx0
  have i1 := idx1
  go_enter Try.func149, Try.ntmps149
  go_wp2_with fail
  refine (addr_Width _ _).mono ?_
  rintro e w' ⟨rfl, rfl⟩
  go_wp2_with fail
  refine (addr_ones _ _ _ (by omega) (by omega) (by omega) (by omega)).mono ?_
  rintro e w1 ⟨rfl, hb1⟩
  have B1 := ((Blk.new2 w _ _ _).alloc _).call hb1.out
  have B2 := (Blk.new3 w _ _ _ _).call hb1.out
  obtain ⟨c2, f2⟩ := B2.facts
  obtain ⟨c1, f1⟩ := B1.facts
  have hK := ((((Kept.refl w).alloc _).alloc _).alloc _).call hb1.out
  clear hb1
  go_wp2_with fail
  refine wp_loop_rounds 3 ?_
  rw [rounds_succ]
  go_wp2_with fail
  rw [rounds_succ]
  go_wp2_with fail
  rw [rounds_succ]
  go_wp2_with fail
  exact ret_blk rfl rfl ((((B1.far (by simp) _).far (by simp) _).put 0 _ rfl).put 1 _ rfl) hu2 rfl (by kernel_rfl) rfl ⟨rfl, (((hK.set (by omega)).set (by omega)).set (by omega)).set (by omega)⟩

def tailW (k : Int) (v : Bool) (n : Int) : Int := onesW k (mx 0 (mn n (wid v))) (wid v)
theorem mxmn_bd (n : Int) (v : Bool) : 0 ≤ mx 0 (mn n (wid v)) ∧ mx 0 (mn n (wid v)) ≤ wid v := by
  have := wid_bd v
  unfold mx mn; split <;> split <;> omega

set_option maxHeartbeats 400000 in
set_option maxRecDepth 100000 in
theorem addr_tail (h l : Int) (v : Bool) (n : Int) (w : World) : Calls Try.prog 158 #[.agg #[.int .u64 h, .int .u64 l, .bool v], .int .i64 n] w fun e w' => e = .returned (.agg #[.int .u64 (tailW 0 v n), .int .u64 (tailW 1 v n)]) ∧ Kept w w' := by
  have hu := Try.underlying34
  have hu2 := Try.underlying207
  have hw := wid_bd v
  have hm := mxmn_bd n v
  go_enter Try.func158, Try.ntmps158
  go_wp2_with fail
  refine (addr_Width _ _).mono ?_
  rintro e w' ⟨rfl, rfl⟩
  go_wp2_with fail
  refine (addr_ones _ _ _ hm.1 (by omega) (by omega) (by omega)).mono ?_
  rintro e w1 ⟨rfl, hb1⟩
  have B1 := (Blk.new2 w _ _ _).call hb1.out
  obtain ⟨c1, f1⟩ := B1.facts
  have hK := (((Kept.refl w).alloc _).alloc _).call hb1.out
  clear hb1
  go_wp2_with fail
  exact ret_blk rfl rfl ((B1.put 0 _ rfl).put 1 _ rfl) hu2 rfl (by kernel_rfl) rfl ⟨rfl, (hK.set (by omega)).set (by omega)⟩
end Go.Proofs.Ytapiffkeclnbbaa.A1
