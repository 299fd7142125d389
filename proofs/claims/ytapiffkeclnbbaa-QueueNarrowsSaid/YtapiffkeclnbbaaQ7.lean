import Derived.Test.YtapiffkeclnbbaaProg
import Derived.Below
import Derived.Deep.Draws
import Derived.Deep.AppendLies
import Derived.Maps.AppendAt
import Derived.OwnWalk
import Derived.Laws.MakeOwn
import Derived.Laws.OwnMore
import Derived.Deep.OwnRows
import Derived.Tactics
import Derived.Laws.Slices
import Derived.WalkKit
import Derived.KernelRfl
import Derived.RowKit3
import Derived.Deep.LoopGhost
import Derived.Deep.QuietTactic
import Derived.BigQuiet
import Derived.WideLaws
import Derived.Deep.DeepCutAuto
import Derived.Deep.CutBlock
import Derived.Deep.RegionHeld3
import Derived.Deep.RegionWith
import Derived.Deep.RegionLaw
import Derived.Laws.Rows
import Derived.ArgAppend
import Derived.OrdersHeld
import Derived.Laws.BitsLemmas
import Derived.Laws.StructEq
import Derived.RowKit
import Derived.Lib.Hide
import Derived.Lib.SliceRun
import Derived.StillTail
import Derived.Test.YtapiffkeclnbbaaB0
import Derived.Test.YtapiffkeclnbbaaB1
import Derived.Test.YtapiffkeclnbbaaB2
import Derived.Test.YtapiffkeclnbbaaB3
import Derived.Test.YtapiffkeclnbbaaB4
import Derived.Test.YtapiffkeclnbbaaB5
import Derived.Test.YtapiffkeclnbbaaB6
import Derived.Test.YtapiffkeclnbbaaB7
import Derived.Test.YtapiffkeclnbbaaB8
import Derived.Test.YtapiffkeclnbbaaA1
import Derived.Test.YtapiffkeclnbbaaA2
import Derived.Test.YtapiffkeclnbbaaA3
import Derived.Test.YtapiffkeclnbbaaA4
import Derived.Test.YtapiffkeclnbbaaA5
import Derived.Test.YtapiffkeclnbbaaA6
import Derived.Test.YtapiffkeclnbbaaQ1
import Derived.Test.YtapiffkeclnbbaaQ2
import Derived.Test.YtapiffkeclnbbaaQ3
import Derived.Test.YtapiffkeclnbbaaQ4
import Derived.Test.YtapiffkeclnbbaaQ5
import Derived.Test.YtapiffkeclnbbaaQ6
/-! queue.Pick. -/
set_option linter.unusedVariables false
set_option linter.unusedSimpArgs false
namespace Go.Proofs.Ytapiffkeclnbbaa.Q
open Go.RowKit Go.Proofs.Ytapiffkeclnbbaa.B0 Go.Proofs.Ytapiffkeclnbbaa.A2
def vE (e : EntryV) : Value := .agg #[.int .u64 e.a.h, .int .u64 e.a.l, .bool e.a.v, .int .u64 e.x.p.a.h, .int .u64 e.x.p.a.l, .bool e.x.p.a.v, .int .i64 e.x.p.n, .int .i64 e.x.hop, .bool e.stale]
attribute [local irreducible] wpSq
set_option maxHeartbeats 1000000 in
set_option maxRecDepth 100000 in
theorem queue_Pick_insane (v : Value) (xs : List EntryV) (bd n : Int) (w : World) (hq : IsQ w v xs bd) (hlen : xs.length ≤ 1024) (hs : saneQ xs bd = false) :
    Calls Try.prog 26 #[v, .int .i64 n] w fun e w' => e = .returned (.tuple #[.agg #[.slice none 0 0, .int .i64 0], vE ⟨⟨0, 0, false⟩, ⟨⟨⟨0, 0, false⟩, 0⟩, 0⟩, false⟩, .bool false]) ∧ Kept w w' := by
  obtain ⟨A, cap, rfl, hc, hr, hty⟩ := hq
  have hu := Try.underlying26
  have hu2 := Try.underlying48
  have hq : IsQ w (.agg #[.slice A xs.length cap, .int .i64 bd]) xs bd := ⟨A, cap, rfl, hc, hr, hty⟩
  go_enter Try.func26, Try.ntmps26
  go_wp2_with fail
  obtain ⟨W, hW⟩ : ∃ W, ((w.alloc (.cells #[.slice A xs.length cap, .int .i64 bd] 26)).alloc (.cells #[.slice none 0 0, .int .i64 0] 26)).alloc (.cells #[.int .u64 0, .int .u64 0, .bool false, .int .u64 0, .int .u64 0, .bool false, .int .i64 0, .int .i64 0, .bool false] 48) = W := ⟨_, rfl⟩
  have B0 : Blk W w.heap.size 26 #[.slice A xs.length cap, .int .i64 bd] := hW ▸ ((Blk.new _ _ _).alloc _).alloc _
  have B1 : Blk W (w.heap.size + 1) 26 #[.slice none 0 0, .int .i64 0] := hW ▸ (Blk.new2 _ _ _ _).alloc _
  have B2 : Blk W (w.heap.size + 1 + 1) 48 #[.int .u64 0, .int .u64 0, .bool false, .int .u64 0, .int .u64 0, .bool false, .int .i64 0, .int .i64 0, .bool false] := hW ▸ Blk.new3 _ _ _ _ _
  have hK : Kept w W := hW ▸ (((Kept.refl w).alloc _).alloc _).alloc _
  rw [hW]
  clear hW
  refine (queue_Sane_is _ _ _ _ (hq.below (Nat.le_refl _) hK.out) hlen hs).mono ?_
  rintro e w1 ⟨rfl, hb1⟩
  have B0 := B0.call hb1.out
  have B1 := B1.call hb1.out
  have B2 := B2.call hb1.out
  have hK := hK.call hb1.out
  clear hb1
  go_wp2_with fail
  refine (queue_New0 _).mono ?_
  rintro e w2 ⟨rfl, hb2⟩
  have B0 := B0.call hb2.out
  have B1 := B1.call hb2.out
  have B2 := B2.call hb2.out
  have hK := hK.call hb2.out
  clear hb2
  obtain ⟨c0, f0⟩ := B0.facts
  obtain ⟨c1, f1⟩ := B1.facts
  obtain ⟨c2, f2⟩ := B2.facts
  have z1 := B1.lt
  have z2 := B2.lt
  go_wp2_with fail
  exact ret_blk_tmp2 rfl rfl rfl (((((((((((B1.put 0 _ rfl).put 1 _ rfl).off (by omega) _).off (by omega) _).off (by omega) _).off (by omega) _).off (by omega) _).off (by omega) _).off (by omega) _).off (by omega) _).off (by omega) _) (((((((((((B2.off (by omega) _).off (by omega) _).put 0 _ rfl).put 1 _ rfl).put 2 _ rfl).put 3 _ rfl).put 4 _ rfl).put 5 _ rfl).put 6 _ rfl).put 7 _ rfl).put 8 _ rfl) hu hu2 rfl rfl (by kernel_rfl) (by kernel_rfl) rfl ⟨rfl, (((((((((((hK.set (by omega)).set (by omega)).set (by omega)).set (by omega)).set (by omega)).set (by omega)).set (by omega)).set (by omega)).set (by omega)).set (by omega)).set (by omega))⟩
theorem getD_of {xs : List EntryV} {k : Nat} (h : k < xs.length) : xs[k]? = some xs[k] := List.getElem?_eq_getElem h
set_option maxHeartbeats 1000000 in
set_option maxRecDepth 100000 in
theorem queue_Pick_low (v : Value) (xs : List EntryV) (bd n : Int) (w : World) (hq : IsQ w v xs bd) (hlen : xs.length ≤ 1024) (hs : saneQ xs bd = true) (hn : n < 0) :
    Calls Try.prog 26 #[v, .int .i64 n] w fun e w' => (∃ v', e = .returned (.tuple #[v', vE ⟨⟨0, 0, false⟩, ⟨⟨⟨0, 0, false⟩, 0⟩, 0⟩, false⟩, .bool false]) ∧ IsQ w' v' xs bd) ∧ Kept w w' := by
  obtain ⟨A, cap, rfl, hc, hr, hty⟩ := hq
  have hu := Try.underlying26
  have hu2 := Try.underlying48
  have hq : IsQ w (.agg #[.slice A xs.length cap, .int .i64 bd]) xs bd := ⟨A, cap, rfl, hc, hr, hty⟩
  have d1 : decide (n < 0) = true := decide_eq_true (by omega)
  go_enter Try.func26, Try.ntmps26
  go_wp2_with fail
  obtain ⟨W, hW⟩ : ∃ W, ((w.alloc (.cells #[.slice A xs.length cap, .int .i64 bd] 26)).alloc (.cells #[.slice none 0 0, .int .i64 0] 26)).alloc (.cells #[.int .u64 0, .int .u64 0, .bool false, .int .u64 0, .int .u64 0, .bool false, .int .i64 0, .int .i64 0, .bool false] 48) = W := ⟨_, rfl⟩
  have B0 : Blk W w.heap.size 26 #[.slice A xs.length cap, .int .i64 bd] := hW ▸ ((Blk.new _ _ _).alloc _).alloc _
  have B1 : Blk W (w.heap.size + 1) 26 #[.slice none 0 0, .int .i64 0] := hW ▸ (Blk.new2 _ _ _ _).alloc _
  have B2 : Blk W (w.heap.size + 1 + 1) 48 #[.int .u64 0, .int .u64 0, .bool false, .int .u64 0, .int .u64 0, .bool false, .int .i64 0, .int .i64 0, .bool false] := hW ▸ Blk.new3 _ _ _ _ _
  have hK : Kept w W := hW ▸ (((Kept.refl w).alloc _).alloc _).alloc _
  rw [hW]
  clear hW
  refine (queue_Sane_is _ _ _ _ (hq.below (Nat.le_refl _) hK.out) hlen hs).mono ?_
  rintro e w1 ⟨rfl, hb1⟩
  have B0 := B0.call hb1.out
  have B1 := B1.call hb1.out
  have B2 := B2.call hb1.out
  have hK := hK.call hb1.out
  clear hb1
  obtain ⟨c0, f0⟩ := B0.facts
  obtain ⟨c1, f1⟩ := B1.facts
  obtain ⟨c2, f2⟩ := B2.facts
  have z1 := B1.lt
  have z2 := B2.lt
  go_wp2_with fail
  exact ret_blk_tmp2 rfl rfl rfl (((((((((((B1.put 0 _ rfl).put 1 _ rfl).off (by omega) _).off (by omega) _).off (by omega) _).off (by omega) _).off (by omega) _).off (by omega) _).off (by omega) _).off (by omega) _).off (by omega) _) (((((((((((B2.off (by omega) _).off (by omega) _).put 0 _ rfl).put 1 _ rfl).put 2 _ rfl).put 3 _ rfl).put 4 _ rfl).put 5 _ rfl).put 6 _ rfl).put 7 _ rfl).put 8 _ rfl) hu hu2 rfl rfl (by kernel_rfl) (by kernel_rfl) rfl ⟨⟨_, rfl, hq.below (Nat.le_refl _) ((((((((((((hK.set (by omega)).set (by omega)).set (by omega)).set (by omega)).set (by omega)).set (by omega)).set (by omega)).set (by omega)).set (by omega)).set (by omega)).set (by omega))).out⟩, (((((((((((hK.set (by omega)).set (by omega)).set (by omega)).set (by omega)).set (by omega)).set (by omega)).set (by omega)).set (by omega)).set (by omega)).set (by omega)).set (by omega))⟩
set_option maxHeartbeats 1000000 in
set_option maxRecDepth 100000 in
theorem queue_Pick_high (v : Value) (xs : List EntryV) (bd n : Int) (w : World) (hq : IsQ w v xs bd) (hlen : xs.length ≤ 1024) (hs : saneQ xs bd = true) (hn0 : 0 ≤ n) (hn : (xs.length : Int) ≤ n) :
    Calls Try.prog 26 #[v, .int .i64 n] w fun e w' => (∃ v', e = .returned (.tuple #[v', vE ⟨⟨0, 0, false⟩, ⟨⟨⟨0, 0, false⟩, 0⟩, 0⟩, false⟩, .bool false]) ∧ IsQ w' v' xs bd) ∧ Kept w w' := by
  obtain ⟨A, cap, rfl, hc, hr, hty⟩ := hq
  have hu := Try.underlying26
  have hu2 := Try.underlying48
  have hq : IsQ w (.agg #[.slice A xs.length cap, .int .i64 bd]) xs bd := ⟨A, cap, rfl, hc, hr, hty⟩
  have d1 : decide (n < 0) = false := decide_eq_false (by omega)
  have d2 : decide ((xs.length : Int) ≤ n) = true := decide_eq_true (by omega)
  go_enter Try.func26, Try.ntmps26
  go_wp2_with fail
  obtain ⟨W, hW⟩ : ∃ W, ((w.alloc (.cells #[.slice A xs.length cap, .int .i64 bd] 26)).alloc (.cells #[.slice none 0 0, .int .i64 0] 26)).alloc (.cells #[.int .u64 0, .int .u64 0, .bool false, .int .u64 0, .int .u64 0, .bool false, .int .i64 0, .int .i64 0, .bool false] 48) = W := ⟨_, rfl⟩
  have B0 : Blk W w.heap.size 26 #[.slice A xs.length cap, .int .i64 bd] := hW ▸ ((Blk.new _ _ _).alloc _).alloc _
  have B1 : Blk W (w.heap.size + 1) 26 #[.slice none 0 0, .int .i64 0] := hW ▸ (Blk.new2 _ _ _ _).alloc _
  have B2 : Blk W (w.heap.size + 1 + 1) 48 #[.int .u64 0, .int .u64 0, .bool false, .int .u64 0, .int .u64 0, .bool false, .int .i64 0, .int .i64 0, .bool false] := hW ▸ Blk.new3 _ _ _ _ _
  have hK : Kept w W := hW ▸ (((Kept.refl w).alloc _).alloc _).alloc _
  rw [hW]
  clear hW
  refine (queue_Sane_is _ _ _ _ (hq.below (Nat.le_refl _) hK.out) hlen hs).mono ?_
  rintro e w1 ⟨rfl, hb1⟩
  have B0 := B0.call hb1.out
  have B1 := B1.call hb1.out
  have B2 := B2.call hb1.out
  have hK := hK.call hb1.out
  clear hb1
  obtain ⟨c0, f0⟩ := B0.facts
  obtain ⟨c1, f1⟩ := B1.facts
  obtain ⟨c2, f2⟩ := B2.facts
  have z1 := B1.lt
  have z2 := B2.lt
  go_wp2_with fail
  exact ret_blk_tmp2 rfl rfl rfl (((((((((((B1.put 0 _ rfl).put 1 _ rfl).off (by omega) _).off (by omega) _).off (by omega) _).off (by omega) _).off (by omega) _).off (by omega) _).off (by omega) _).off (by omega) _).off (by omega) _) (((((((((((B2.off (by omega) _).off (by omega) _).put 0 _ rfl).put 1 _ rfl).put 2 _ rfl).put 3 _ rfl).put 4 _ rfl).put 5 _ rfl).put 6 _ rfl).put 7 _ rfl).put 8 _ rfl) hu hu2 rfl rfl (by kernel_rfl) (by kernel_rfl) rfl ⟨⟨_, rfl, hq.below (Nat.le_refl _) ((((((((((((hK.set (by omega)).set (by omega)).set (by omega)).set (by omega)).set (by omega)).set (by omega)).set (by omega)).set (by omega)).set (by omega)).set (by omega)).set (by omega))).out⟩, (((((((((((hK.set (by omega)).set (by omega)).set (by omega)).set (by omega)).set (by omega)).set (by omega)).set (by omega)).set (by omega)).set (by omega)).set (by omega)).set (by omega))⟩
end Go.Proofs.Ytapiffkeclnbbaa.Q
