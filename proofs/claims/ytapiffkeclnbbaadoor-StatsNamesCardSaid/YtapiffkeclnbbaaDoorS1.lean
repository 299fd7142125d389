import Derived.Test.YtapiffkeclnbbaaDoorProg
import Derived.Below
import Derived.Deep.Draws
import Derived.Deep.AppendLies
import Derived.Maps.AppendAt
import Derived.OwnWalk
import Derived.Laws.MakeOwn
import Derived.Laws.OwnMore
import Derived.Deep.OwnRows
import Derived.Tactics
import Derived.Laws.Slices
import Derived.WalkKit
import Derived.KernelRfl
import Derived.RowKit3
import Derived.Deep.LoopGhost
import Derived.Deep.QuietTactic
import Derived.BigQuiet
import Derived.WideLaws
import Derived.Deep.DeepCutAuto
import Derived.Deep.CutBlock
import Derived.Deep.RegionHeld3
import Derived.Deep.RegionWith
import Derived.Deep.RegionLaw
import Derived.Laws.Rows
import Derived.ArgAppend
import Derived.OrdersHeld
import Derived.Laws.BitsLemmas
import Derived.Laws.StructEq
import Derived.RowKit
import Derived.Lib.Hide
import Derived.Lib.SliceRun
import Derived.StillTail
import Derived.Test.YtapiffkeclnbbaaDoorB0
import Derived.Test.YtapiffkeclnbbaaDoorB1
import Derived.Test.YtapiffkeclnbbaaDoorB2
import Derived.Test.YtapiffkeclnbbaaDoorB3
import Derived.Test.YtapiffkeclnbbaaDoorB4
/-! stats.is, stats.add, kedgeref15.kind, kedgeref15.more. -/
set_option linter.unusedVariables false
set_option linter.unusedSimpArgs false
namespace Go.Proofs.YtapiffkeclnbbaaDoor.S
open Go.RowKit Go.Proofs.YtapiffkeclnbbaaDoor.B0
/-- is there such a kind? -/
def isK (k : Int) : Bool := decide (0 ≤ k) && decide (k < 17)
/-- two numbers added, the greatest one at most -/
def addV (x y : Int) : Int := if 18446744073709551616 ≤ x + y then 18446744073709551615 else x + y
def okU (x : Int) : Prop := 0 ≤ x ∧ x < 18446744073709551616
theorem addV_ok {x y : Int} (hx : okU x) (hy : okU y) : okU (addV x y) := by unfold okU addV at *; split <;> omega
set_option maxHeartbeats 400000 in
theorem stats_is (k : Int) (w : World) : Calls Tryd.prog 19 #[.int .i64 k] w fun e w' => e = .returned (.bool (isK k)) ∧ w' = w := by
  by_cases h0 : 0 ≤ k
  · have hd : decide (0 ≤ k) = true := decide_eq_true h0
    go_enter Tryd.func19, Tryd.ntmps19
    go_wp2_with fail
    go_ret
    exact ⟨by simp [isK, h0], rfl⟩
  · have hd : decide (0 ≤ k) = false := decide_eq_false h0
    have hs : isK k = false := by simp [isK, h0]
    have Hs := Lib.hid hs
    clear h0 hs
    go_enter Tryd.func19, Tryd.ntmps19
    go_wp2_with fail
    go_ret
    exact ⟨by simp [Hs.out], rfl⟩
set_option maxHeartbeats 400000 in
theorem ref_kind (k : Int) (w : World) : Calls Tryd.prog 21 #[.int .i64 k] w fun e w' => e = .returned (.bool (isK k)) ∧ w' = w := by
  by_cases h0 : 0 ≤ k
  · have hd : decide (0 ≤ k) = true := decide_eq_true h0
    go_enter Tryd.func21, Tryd.ntmps21
    go_wp2_with fail
    go_ret
    exact ⟨by simp [isK, h0], rfl⟩
  · have hd : decide (0 ≤ k) = false := decide_eq_false h0
    have hs : isK k = false := by simp [isK, h0]
    have Hs := Lib.hid hs
    clear h0 hs
    go_enter Tryd.func21, Tryd.ntmps21
    go_wp2_with fail
    go_ret
    exact ⟨by simp [Hs.out], rfl⟩
theorem add64 (x y : Int) (hx : 0 ≤ x) (hy : 0 ≤ y) (w : World) : (callFunc 24 #[.int .u64 x, .int .u64 y, .int .u64 0]).run Tryd.prog w =
    .ok (.value (.tuple #[.int .u64 ((x + y) % 18446744073709551616), .int .u64 ((x + y) / 18446744073709551616)])) w := by
  rw [run_callFunc_extern Tryd.func24 (by kernel_rfl) (by kernel_rfl) (by kernel_rfl) (e := add64Entry) (by kernel_rfl), run_add64 x y 0 hx hy (by omega) (by omega)]
  simp [Result.andThen]
set_option maxHeartbeats 400000 in
theorem stats_add (x y : Int) (hx : okU x) (hy : okU y) (w : World) : Calls Tryd.prog 20 #[.int .u64 x, .int .u64 y] w fun e w' => e = .returned (.int .u64 (addV x y)) ∧ w' = w := by
  have ha := add64 x y hx.1 hy.1
  unfold okU at hx hy
  by_cases h : 18446744073709551616 ≤ x + y
  · have e1 : (x + y) / 18446744073709551616 = 1 := by omega
    have e2 : addV x y = 18446744073709551615 := if_pos h
    rw [e1] at ha
    rw [e2]
    clear h e1 e2 hx hy
    go_enter Tryd.func20, Tryd.ntmps20
    go_wp2_with fail
    go_ret
    exact ⟨rfl, rfl⟩
  · have e1 : (x + y) / 18446744073709551616 = 0 := by omega
    have e3 : (x + y) % 18446744073709551616 = x + y := by omega
    have e2 : addV x y = x + y := if_neg h
    rw [e1, e3] at ha
    rw [e2]
    clear h e1 e2 e3 hx hy
    go_enter Tryd.func20, Tryd.ntmps20
    go_wp2_with fail
    go_ret
    exact ⟨rfl, rfl⟩
set_option maxHeartbeats 400000 in
theorem ref_more (x y : Int) (hx : okU x) (hy : okU y) (w : World) : Calls Tryd.prog 22 #[.int .u64 x, .int .u64 y] w fun e w' => e = .returned (.int .u64 (addV x y)) ∧ w' = w := by
  unfold okU at hx hy
  have hw : IntKind.u64.wrap (18446744073709551615 - x) = 18446744073709551615 - x := by rw [wrap_u64]; omega
  by_cases h : 18446744073709551616 ≤ x + y
  · have e1 : 18446744073709551615 - x < y := by omega
    have e2 : addV x y = 18446744073709551615 := if_pos h
    rw [e2]
    clear h e2
    go_enter Tryd.func22, Tryd.ntmps22
    go_wp2_with fail
    go_ret
    exact ⟨rfl, rfl⟩
  · have e1 : ¬ 18446744073709551615 - x < y := by omega
    have e2 : addV x y = x + y := if_neg h
    have hw2 : IntKind.u64.wrap (x + y) = x + y := by rw [wrap_u64]; omega
    rw [e2]
    clear h e2
    go_enter Tryd.func22, Tryd.ntmps22
    go_wp2_with fail
    go_ret
    exact ⟨rfl, rfl⟩
end Go.Proofs.YtapiffkeclnbbaaDoor.S
