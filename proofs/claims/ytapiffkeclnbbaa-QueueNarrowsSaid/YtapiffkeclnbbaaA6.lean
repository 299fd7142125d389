import Derived.Test.YtapiffkeclnbbaaProg
import Derived.Below
import Derived.Deep.Draws
import Derived.Deep.AppendLies
import Derived.Maps.AppendAt
import Derived.OwnWalk
import Derived.Laws.MakeOwn
import Derived.Laws.OwnMore
import Derived.Deep.OwnRows
import Derived.Tactics
import Derived.Laws.Slices
import Derived.WalkKit
import Derived.KernelRfl
import Derived.RowKit3
import Derived.Deep.LoopGhost
import Derived.Deep.QuietTactic
import Derived.BigQuiet
import Derived.WideLaws
import Derived.Deep.DeepCutAuto
import Derived.Deep.CutBlock
import Derived.Deep.RegionHeld3
import Derived.Deep.RegionWith
import Derived.Deep.RegionLaw
import Derived.Laws.Rows
import Derived.ArgAppend
import Derived.OrdersHeld
import Derived.Laws.BitsLemmas
import Derived.Laws.StructEq
import Derived.RowKit
import Derived.Lib.Hide
import Derived.Lib.SliceRun
import Derived.StillTail
import Derived.Test.YtapiffkeclnbbaaB0
import Derived.Test.YtapiffkeclnbbaaB1
import Derived.Test.YtapiffkeclnbbaaB2
import Derived.Test.YtapiffkeclnbbaaB3
import Derived.Test.YtapiffkeclnbbaaB7
import Derived.Test.YtapiffkeclnbbaaA1
import Derived.Test.YtapiffkeclnbbaaA2
/-! addr.From of four bytes. -/
set_option linter.unusedVariables false
set_option linter.unusedSimpArgs false
namespace Go.Proofs.Ytapiffkeclnbbaa.A2
open Go.RowKit Go.Proofs.Ytapiffkeclnbbaa.B0 Go.Proofs.Ytapiffkeclnbbaa.A1
set_option maxHeartbeats 1000000 in
set_option maxRecDepth 100000 in
theorem addr_From_10_0_0_0 (g : Nat) (w : World) (B : Blk w g 5 #[.int .u8 10, .int .u8 0, .int .u8 0, .int .u8 0]) :
    Calls Try.prog 87 #[.slice (some ⟨g, 0, none⟩) 4 4] w fun e w' => e = .returned (.tuple #[.agg #[.int .u64 720575940379279360, .int .u64 0, .bool false], .int .i64 0]) ∧ Kept w w' := by
  have hu := Try.underlying34
  have hu2 := Try.underlying207
  obtain ⟨c0, f0⟩ := B.facts
  have z0 := B.lt
  go_enter Try.func87, Try.ntmps87
  go_wp2_with fail
  refine wp_loop_rounds 5 ?_
  rw [rounds_succ]; go_wp2_with fail
  rw [rounds_succ]; go_wp2_with fail
  rw [rounds_succ]; go_wp2_with fail
  rw [rounds_succ]; go_wp2_with fail
  rw [rounds_succ]; go_wp2_with fail
  have hv : Go.bits .or .u64 (Go.bits .or .u64 (Go.bits .or .u64 (Go.bits .or .u64 0 720575940379279360) 0) 0) 0 = 720575940379279360 := by decide
  rw [hv]
  have B0 := (Blk.new w 34 #[.int .u64 0, .int .u64 0, .bool false]).alloc (.cells #[.int .u64 720575940379279360, .int .u64 0] 207)
  have hK := ((Kept.refl w).alloc (.cells #[.int .u64 0, .int .u64 0, .bool false] 34)).alloc (.cells #[.int .u64 720575940379279360, .int .u64 0] 207)
  refine (addr_of _ _ _ _).mono ?_
  rintro e w1 ⟨rfl, hb1⟩
  have B0 := B0.call hb1.out
  have hK := hK.call hb1.out
  clear hb1 c0 f0 hv
  obtain ⟨c0, f0⟩ := B0.facts
  have z0 := B0.lt
  go_wp2_with fail
  exact ret_blk_tmp rfl rfl (((B0.put 0 _ rfl).put 1 _ rfl).put 2 _ rfl) hu rfl (by kernel_rfl) rfl ⟨rfl, ((hK.set (by omega)).set (by omega)).set (by omega)⟩
set_option maxHeartbeats 1000000 in
set_option maxRecDepth 100000 in
theorem addr_From_10_0_0_1 (g : Nat) (w : World) (B : Blk w g 5 #[.int .u8 10, .int .u8 0, .int .u8 0, .int .u8 1]) :
    Calls Try.prog 87 #[.slice (some ⟨g, 0, none⟩) 4 4] w fun e w' => e = .returned (.tuple #[.agg #[.int .u64 720575944674246656, .int .u64 0, .bool false], .int .i64 0]) ∧ Kept w w' := by
  have hu := Try.underlying34
  have hu2 := Try.underlying207
  obtain ⟨c0, f0⟩ := B.facts
  have z0 := B.lt
  go_enter Try.func87, Try.ntmps87
  go_wp2_with fail
  refine wp_loop_rounds 5 ?_
  rw [rounds_succ]; go_wp2_with fail
  rw [rounds_succ]; go_wp2_with fail
  rw [rounds_succ]; go_wp2_with fail
  rw [rounds_succ]; go_wp2_with fail
  rw [rounds_succ]; go_wp2_with fail
  have hv : Go.bits .or .u64 (Go.bits .or .u64 (Go.bits .or .u64 (Go.bits .or .u64 0 720575940379279360) 0) 0) 4294967296 = 720575944674246656 := by decide
  rw [hv]
  have B0 := (Blk.new w 34 #[.int .u64 0, .int .u64 0, .bool false]).alloc (.cells #[.int .u64 720575944674246656, .int .u64 0] 207)
  have hK := ((Kept.refl w).alloc (.cells #[.int .u64 0, .int .u64 0, .bool false] 34)).alloc (.cells #[.int .u64 720575944674246656, .int .u64 0] 207)
  refine (addr_of _ _ _ _).mono ?_
  rintro e w1 ⟨rfl, hb1⟩
  have B0 := B0.call hb1.out
  have hK := hK.call hb1.out
  clear hb1 c0 f0 hv
  obtain ⟨c0, f0⟩ := B0.facts
  have z0 := B0.lt
  go_wp2_with fail
  exact ret_blk_tmp rfl rfl (((B0.put 0 _ rfl).put 1 _ rfl).put 2 _ rfl) hu rfl (by kernel_rfl) rfl ⟨rfl, ((hK.set (by omega)).set (by omega)).set (by omega)⟩
set_option maxHeartbeats 1000000 in
set_option maxRecDepth 100000 in
theorem addr_From_10_0_0_2 (g : Nat) (w : World) (B : Blk w g 5 #[.int .u8 10, .int .u8 0, .int .u8 0, .int .u8 2]) :
    Calls Try.prog 87 #[.slice (some ⟨g, 0, none⟩) 4 4] w fun e w' => e = .returned (.tuple #[.agg #[.int .u64 720575948969213952, .int .u64 0, .bool false], .int .i64 0]) ∧ Kept w w' := by
  have hu := Try.underlying34
  have hu2 := Try.underlying207
  obtain ⟨c0, f0⟩ := B.facts
  have z0 := B.lt
  go_enter Try.func87, Try.ntmps87
  go_wp2_with fail
  refine wp_loop_rounds 5 ?_
  rw [rounds_succ]; go_wp2_with fail
  rw [rounds_succ]; go_wp2_with fail
  rw [rounds_succ]; go_wp2_with fail
  rw [rounds_succ]; go_wp2_with fail
  rw [rounds_succ]; go_wp2_with fail
  have hv : Go.bits .or .u64 (Go.bits .or .u64 (Go.bits .or .u64 (Go.bits .or .u64 0 720575940379279360) 0) 0) 8589934592 = 720575948969213952 := by decide
  rw [hv]
  have B0 := (Blk.new w 34 #[.int .u64 0, .int .u64 0, .bool false]).alloc (.cells #[.int .u64 720575948969213952, .int .u64 0] 207)
  have hK := ((Kept.refl w).alloc (.cells #[.int .u64 0, .int .u64 0, .bool false] 34)).alloc (.cells #[.int .u64 720575948969213952, .int .u64 0] 207)
  refine (addr_of _ _ _ _).mono ?_
  rintro e w1 ⟨rfl, hb1⟩
  have B0 := B0.call hb1.out
  have hK := hK.call hb1.out
  clear hb1 c0 f0 hv
  obtain ⟨c0, f0⟩ := B0.facts
  have z0 := B0.lt
  go_wp2_with fail
  exact ret_blk_tmp rfl rfl (((B0.put 0 _ rfl).put 1 _ rfl).put 2 _ rfl) hu rfl (by kernel_rfl) rfl ⟨rfl, ((hK.set (by omega)).set (by omega)).set (by omega)⟩
set_option maxHeartbeats 1000000 in
set_option maxRecDepth 100000 in
theorem addr_From_10_1_0_0 (g : Nat) (w : World) (B : Blk w g 5 #[.int .u8 10, .int .u8 1, .int .u8 0, .int .u8 0]) :
    Calls Try.prog 87 #[.slice (some ⟨g, 0, none⟩) 4 4] w fun e w' => e = .returned (.tuple #[.agg #[.int .u64 720857415355990016, .int .u64 0, .bool false], .int .i64 0]) ∧ Kept w w' := by
  have hu := Try.underlying34
  have hu2 := Try.underlying207
  obtain ⟨c0, f0⟩ := B.facts
  have z0 := B.lt
  go_enter Try.func87, Try.ntmps87
  go_wp2_with fail
  refine wp_loop_rounds 5 ?_
  rw [rounds_succ]; go_wp2_with fail
  rw [rounds_succ]; go_wp2_with fail
  rw [rounds_succ]; go_wp2_with fail
  rw [rounds_succ]; go_wp2_with fail
  rw [rounds_succ]; go_wp2_with fail
  have hv : Go.bits .or .u64 (Go.bits .or .u64 (Go.bits .or .u64 (Go.bits .or .u64 0 720575940379279360) 281474976710656) 0) 0 = 720857415355990016 := by decide
  rw [hv]
  have B0 := (Blk.new w 34 #[.int .u64 0, .int .u64 0, .bool false]).alloc (.cells #[.int .u64 720857415355990016, .int .u64 0] 207)
  have hK := ((Kept.refl w).alloc (.cells #[.int .u64 0, .int .u64 0, .bool false] 34)).alloc (.cells #[.int .u64 720857415355990016, .int .u64 0] 207)
  refine (addr_of _ _ _ _).mono ?_
  rintro e w1 ⟨rfl, hb1⟩
  have B0 := B0.call hb1.out
  have hK := hK.call hb1.out
  clear hb1 c0 f0 hv
  obtain ⟨c0, f0⟩ := B0.facts
  have z0 := B0.lt
  go_wp2_with fail
  exact ret_blk_tmp rfl rfl (((B0.put 0 _ rfl).put 1 _ rfl).put 2 _ rfl) hu rfl (by kernel_rfl) rfl ⟨rfl, ((hK.set (by omega)).set (by omega)).set (by omega)⟩
end Go.Proofs.Ytapiffkeclnbbaa.A2
