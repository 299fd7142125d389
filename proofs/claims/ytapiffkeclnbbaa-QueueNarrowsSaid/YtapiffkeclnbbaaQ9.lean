import Derived.Test.YtapiffkeclnbbaaProg
import Derived.Below
import Derived.Deep.Draws
import Derived.Deep.AppendLies
import Derived.Maps.AppendAt
import Derived.OwnWalk
import Derived.Laws.MakeOwn
import Derived.Laws.OwnMore
import Derived.Deep.OwnRows
import Derived.Tactics
import Derived.Laws.Slices
import Derived.WalkKit
import Derived.KernelRfl
import Derived.RowKit3
import Derived.Deep.LoopGhost
import Derived.Deep.QuietTactic
import Derived.BigQuiet
import Derived.WideLaws
import Derived.Deep.DeepCutAuto
import Derived.Deep.CutBlock
import Derived.Deep.RegionHeld3
import Derived.Deep.RegionWith
import Derived.Deep.RegionLaw
import Derived.Laws.Rows
import Derived.ArgAppend
import Derived.OrdersHeld
import Derived.Laws.BitsLemmas
import Derived.Laws.StructEq
import Derived.RowKit
import Derived.Lib.Hide
import Derived.Lib.SliceRun
import Derived.StillTail
import Derived.Test.YtapiffkeclnbbaaB0
import Derived.Test.YtapiffkeclnbbaaB1
import Derived.Test.YtapiffkeclnbbaaB2
import Derived.Test.YtapiffkeclnbbaaB3
import Derived.Test.YtapiffkeclnbbaaB4
import Derived.Test.YtapiffkeclnbbaaB5
import Derived.Test.YtapiffkeclnbbaaB6
import Derived.Test.YtapiffkeclnbbaaB7
import Derived.Test.YtapiffkeclnbbaaB8
import Derived.Test.YtapiffkeclnbbaaA1
import Derived.Test.YtapiffkeclnbbaaA2
import Derived.Test.YtapiffkeclnbbaaA3
import Derived.Test.YtapiffkeclnbbaaA4
import Derived.Test.YtapiffkeclnbbaaA5
import Derived.Test.YtapiffkeclnbbaaA6
import Derived.Test.YtapiffkeclnbbaaQ1
import Derived.Test.YtapiffkeclnbbaaQ2
import Derived.Test.YtapiffkeclnbbaaQ3
import Derived.Test.YtapiffkeclnbbaaQ4
import Derived.Test.YtapiffkeclnbbaaQ5
import Derived.Test.YtapiffkeclnbbaaQ6
import Derived.Test.YtapiffkeclnbbaaQ7
import Derived.Test.YtapiffkeclnbbaaQ8
/-! queue.Offer. -/
set_option linter.unusedVariables false
set_option linter.unusedSimpArgs false
namespace Go.Proofs.Ytapiffkeclnbbaa.Q
open Go.RowKit Go.Proofs.Ytapiffkeclnbbaa.B0 Go.Proofs.Ytapiffkeclnbbaa.A2
attribute [local irreducible] wpHq
set_option maxHeartbeats 1000000 in
set_option maxRecDepth 100000 in
theorem queue_Offer_insane (v : Value) (xs : List EntryV) (bd : Int) (a : AddrV) (x : RouteV) (w : World) (hq : IsQ w v xs bd) (hlen : xs.length ≤ 1024) (hs : saneQ xs bd = false) :
    Calls Try.prog 22 #[v, .agg #[.int .u64 a.h, .int .u64 a.l, .bool a.v], .agg #[.int .u64 x.p.a.h, .int .u64 x.p.a.l, .bool x.p.a.v, .int .i64 x.p.n, .int .i64 x.hop]] w fun e w' => e = .returned (.tuple #[.agg #[.slice none 0 0, .int .i64 0], .int .i64 0]) ∧ Kept w w' := by
  obtain ⟨A, cap, rfl, hc, hr, hty⟩ := hq
  have hu := Try.underlying26
  have hu2 := Try.underlying34
  have hu3 := Try.underlying38
  have hq : IsQ w (.agg #[.slice A xs.length cap, .int .i64 bd]) xs bd := ⟨A, cap, rfl, hc, hr, hty⟩
  go_enter Try.func22, Try.ntmps22
  go_wp2_with fail
  obtain ⟨W, hW⟩ : ∃ W, (((w.alloc (.cells #[.slice A xs.length cap, .int .i64 bd] 26)).alloc (.cells #[.int .u64 a.h, .int .u64 a.l, .bool a.v] 34)).alloc (.cells #[.int .u64 x.p.a.h, .int .u64 x.p.a.l, .bool x.p.a.v, .int .i64 x.p.n, .int .i64 x.hop] 38)).alloc (.cells #[.slice none 0 0, .int .i64 0] 26) = W := ⟨_, rfl⟩
  have B0 : Blk W w.heap.size 26 #[.slice A xs.length cap, .int .i64 bd] := hW ▸ (((Blk.new _ _ _).alloc _).alloc _).alloc _
  have B1 : Blk W (w.heap.size + 1) 34 #[.int .u64 a.h, .int .u64 a.l, .bool a.v] := hW ▸ ((Blk.new2 _ _ _ _).alloc _).alloc _
  have B2 : Blk W (w.heap.size + 1 + 1) 38 #[.int .u64 x.p.a.h, .int .u64 x.p.a.l, .bool x.p.a.v, .int .i64 x.p.n, .int .i64 x.hop] := hW ▸ (Blk.new3 _ _ _ _ _).alloc _
  have B3 : Blk W (w.heap.size + 1 + 1 + 1) 26 #[.slice none 0 0, .int .i64 0] := hW ▸ Blk.new4 _ _ _ _ _ _
  have hK : Kept w W := hW ▸ ((((Kept.refl w).alloc _).alloc _).alloc _).alloc _
  rw [hW]
  clear hW
  refine (queue_Sane_is _ _ _ _ (hq.below (Nat.le_refl _) hK.out) hlen hs).mono ?_
  rintro e w1 ⟨rfl, hb1⟩
  have B0 := B0.call hb1.out
  have B1 := B1.call hb1.out
  have B2 := B2.call hb1.out
  have B3 := B3.call hb1.out
  have hK := hK.call hb1.out
  clear hb1
  go_wp2_with fail
  refine (queue_New0 _).mono ?_
  rintro e w2 ⟨rfl, hb2⟩
  have B0 := B0.call hb2.out
  have B1 := B1.call hb2.out
  have B2 := B2.call hb2.out
  have B3 := B3.call hb2.out
  have hK := hK.call hb2.out
  clear hb2
  obtain ⟨c0, f0⟩ := B0.facts
  obtain ⟨c1, f1⟩ := B1.facts
  obtain ⟨c2, f2⟩ := B2.facts
  obtain ⟨c3, f3⟩ := B3.facts
  have z0 := B0.lt
  have z1 := B1.lt
  have z2 := B2.lt
  have z3 := B3.lt
  go_wp2_with fail
  exact ret_blk_tmp rfl rfl ((B3.put 0 _ rfl).put 1 _ rfl) hu rfl (by kernel_rfl) rfl ⟨rfl, ((hK.set (by omega)).set (by omega))⟩
set_option maxHeartbeats 1000000 in
set_option maxRecDepth 100000 in
theorem queue_Offer_dup (v : Value) (xs : List EntryV) (bd : Int) (a : AddrV) (x : RouteV) (w : World) (hq : IsQ w v xs bd) (hlen : xs.length ≤ 1024) (hs : saneQ xs bd = true) (hf : firE xs a ≠ -1) :
    Calls Try.prog 22 #[v, .agg #[.int .u64 a.h, .int .u64 a.l, .bool a.v], .agg #[.int .u64 x.p.a.h, .int .u64 x.p.a.l, .bool x.p.a.v, .int .i64 x.p.n, .int .i64 x.hop]] w fun e w' => (∃ v', e = .returned (.tuple #[v', .int .i64 1]) ∧ IsQ w' v' xs bd) ∧ Kept w w' := by
  obtain ⟨A, cap, rfl, hc, hr, hty⟩ := hq
  have hu := Try.underlying26
  have hu2 := Try.underlying34
  have hu3 := Try.underlying38
  have hq : IsQ w (.agg #[.slice A xs.length cap, .int .i64 bd]) xs bd := ⟨A, cap, rfl, hc, hr, hty⟩
  have d0 : (firE xs a == -1) = false := by simpa using hf
  go_enter Try.func22, Try.ntmps22
  go_wp2_with fail
  obtain ⟨W, hW⟩ : ∃ W, (((w.alloc (.cells #[.slice A xs.length cap, .int .i64 bd] 26)).alloc (.cells #[.int .u64 a.h, .int .u64 a.l, .bool a.v] 34)).alloc (.cells #[.int .u64 x.p.a.h, .int .u64 x.p.a.l, .bool x.p.a.v, .int .i64 x.p.n, .int .i64 x.hop] 38)).alloc (.cells #[.slice none 0 0, .int .i64 0] 26) = W := ⟨_, rfl⟩
  have B0 : Blk W w.heap.size 26 #[.slice A xs.length cap, .int .i64 bd] := hW ▸ (((Blk.new _ _ _).alloc _).alloc _).alloc _
  have B1 : Blk W (w.heap.size + 1) 34 #[.int .u64 a.h, .int .u64 a.l, .bool a.v] := hW ▸ ((Blk.new2 _ _ _ _).alloc _).alloc _
  have B2 : Blk W (w.heap.size + 1 + 1) 38 #[.int .u64 x.p.a.h, .int .u64 x.p.a.l, .bool x.p.a.v, .int .i64 x.p.n, .int .i64 x.hop] := hW ▸ (Blk.new3 _ _ _ _ _).alloc _
  have B3 : Blk W (w.heap.size + 1 + 1 + 1) 26 #[.slice none 0 0, .int .i64 0] := hW ▸ Blk.new4 _ _ _ _ _ _
  have hK : Kept w W := hW ▸ ((((Kept.refl w).alloc _).alloc _).alloc _).alloc _
  rw [hW]
  clear hW
  refine (queue_Sane_is _ _ _ _ (hq.below (Nat.le_refl _) hK.out) hlen hs).mono ?_
  rintro e w1 ⟨rfl, hb1⟩
  have B0 := B0.call hb1.out
  have B1 := B1.call hb1.out
  have B2 := B2.call hb1.out
  have B3 := B3.call hb1.out
  have hK := hK.call hb1.out
  clear hb1
  obtain ⟨c0, f0⟩ := B0.facts
  obtain ⟨c1, f1⟩ := B1.facts
  obtain ⟨c2, f2⟩ := B2.facts
  obtain ⟨c3, f3⟩ := B3.facts
  have z0 := B0.lt
  have z1 := B1.lt
  have z2 := B2.lt
  have z3 := B3.lt
  have hr1 := (hr.below hK.out).more hK.size
  go_wp2_with fail
  refine (queue_first A cap a xs (by omega) _ hr1).mono ?_
  rintro e w2 ⟨rfl, hb2⟩
  clear c0 f0 z0 c1 f1 z1 c2 f2 z2 c3 f3 z3
  have B0 := B0.call hb2.out
  have B1 := B1.call hb2.out
  have B2 := B2.call hb2.out
  have B3 := B3.call hb2.out
  have hK := hK.call hb2.out
  clear hb2
  obtain ⟨c0, f0⟩ := B0.facts
  obtain ⟨c1, f1⟩ := B1.facts
  obtain ⟨c2, f2⟩ := B2.facts
  obtain ⟨c3, f3⟩ := B3.facts
  have z0 := B0.lt
  have z1 := B1.lt
  have z2 := B2.lt
  have z3 := B3.lt
  go_wp2_with fail
  exact ret_blk_tmp rfl rfl ((B3.put 0 _ rfl).put 1 _ rfl) hu rfl (by kernel_rfl) rfl ⟨⟨_, rfl, hq.below (Nat.le_refl _) (((hK.set (by omega)).set (by omega))).out⟩, ((hK.set (by omega)).set (by omega))⟩
set_option maxHeartbeats 1000000 in
set_option maxRecDepth 100000 in
theorem queue_Offer_full (v : Value) (xs : List EntryV) (bd : Int) (a : AddrV) (x : RouteV) (w : World) (hq : IsQ w v xs bd) (hlen : xs.length ≤ 1024) (hs : saneQ xs bd = true) (hf : firE xs a = -1) (hl : (xs.length : Int) = bd) :
    Calls Try.prog 22 #[v, .agg #[.int .u64 a.h, .int .u64 a.l, .bool a.v], .agg #[.int .u64 x.p.a.h, .int .u64 x.p.a.l, .bool x.p.a.v, .int .i64 x.p.n, .int .i64 x.hop]] w fun e w' => (∃ v', e = .returned (.tuple #[v', .int .i64 2]) ∧ IsQ w' v' xs bd) ∧ Kept w w' := by
  obtain ⟨A, cap, rfl, hc, hr, hty⟩ := hq
  have hu := Try.underlying26
  have hu2 := Try.underlying34
  have hu3 := Try.underlying38
  have hq : IsQ w (.agg #[.slice A xs.length cap, .int .i64 bd]) xs bd := ⟨A, cap, rfl, hc, hr, hty⟩
  have d0 : (firE xs a == -1) = true := by simpa using hf
  have d1 : ((xs.length : Int) == bd) = true := by simpa using hl
  have Hf := Lib.hid hf
  have Hl := Lib.hid hl
  clear hf hl
  go_enter Try.func22, Try.ntmps22
  go_wp2_with fail
  obtain ⟨W, hW⟩ : ∃ W, (((w.alloc (.cells #[.slice A xs.length cap, .int .i64 bd] 26)).alloc (.cells #[.int .u64 a.h, .int .u64 a.l, .bool a.v] 34)).alloc (.cells #[.int .u64 x.p.a.h, .int .u64 x.p.a.l, .bool x.p.a.v, .int .i64 x.p.n, .int .i64 x.hop] 38)).alloc (.cells #[.slice none 0 0, .int .i64 0] 26) = W := ⟨_, rfl⟩
  have B0 : Blk W w.heap.size 26 #[.slice A xs.length cap, .int .i64 bd] := hW ▸ (((Blk.new _ _ _).alloc _).alloc _).alloc _
  have B1 : Blk W (w.heap.size + 1) 34 #[.int .u64 a.h, .int .u64 a.l, .bool a.v] := hW ▸ ((Blk.new2 _ _ _ _).alloc _).alloc _
  have B2 : Blk W (w.heap.size + 1 + 1) 38 #[.int .u64 x.p.a.h, .int .u64 x.p.a.l, .bool x.p.a.v, .int .i64 x.p.n, .int .i64 x.hop] := hW ▸ (Blk.new3 _ _ _ _ _).alloc _
  have B3 : Blk W (w.heap.size + 1 + 1 + 1) 26 #[.slice none 0 0, .int .i64 0] := hW ▸ Blk.new4 _ _ _ _ _ _
  have hK : Kept w W := hW ▸ ((((Kept.refl w).alloc _).alloc _).alloc _).alloc _
  rw [hW]
  clear hW
  refine (queue_Sane_is _ _ _ _ (hq.below (Nat.le_refl _) hK.out) hlen hs).mono ?_
  rintro e w1 ⟨rfl, hb1⟩
  have B0 := B0.call hb1.out
  have B1 := B1.call hb1.out
  have B2 := B2.call hb1.out
  have B3 := B3.call hb1.out
  have hK := hK.call hb1.out
  clear hb1
  obtain ⟨c0, f0⟩ := B0.facts
  obtain ⟨c1, f1⟩ := B1.facts
  obtain ⟨c2, f2⟩ := B2.facts
  obtain ⟨c3, f3⟩ := B3.facts
  have z0 := B0.lt
  have z1 := B1.lt
  have z2 := B2.lt
  have z3 := B3.lt
  have hr1 := (hr.below hK.out).more hK.size
  go_wp2_with fail
  refine (queue_first A cap a xs (by omega) _ hr1).mono ?_
  rintro e w2 ⟨rfl, hb2⟩
  clear c0 f0 z0 c1 f1 z1 c2 f2 z2 c3 f3 z3
  have B0 := B0.call hb2.out
  have B1 := B1.call hb2.out
  have B2 := B2.call hb2.out
  have B3 := B3.call hb2.out
  have hK := hK.call hb2.out
  clear hb2
  obtain ⟨c0, f0⟩ := B0.facts
  obtain ⟨c1, f1⟩ := B1.facts
  obtain ⟨c2, f2⟩ := B2.facts
  obtain ⟨c3, f3⟩ := B3.facts
  have z0 := B0.lt
  have z1 := B1.lt
  have z2 := B2.lt
  have z3 := B3.lt
  go_wp2_with fail
  exact ret_blk_tmp rfl rfl ((B3.put 0 _ rfl).put 1 _ rfl) hu rfl (by kernel_rfl) rfl ⟨⟨_, rfl, hq.below (Nat.le_refl _) (((hK.set (by omega)).set (by omega))).out⟩, ((hK.set (by omega)).set (by omega))⟩
set_option maxHeartbeats 1000000 in
set_option maxRecDepth 100000 in
theorem queue_Offer_unfit (v : Value) (xs : List EntryV) (bd : Int) (a : AddrV) (x : RouteV) (w : World) (hq : IsQ w v xs bd) (hlen : xs.length ≤ 1024) (hs : saneQ xs bd = true) (hf : firE xs a = -1) (hl : (xs.length : Int) ≠ bd) (hfit : fitE a x = false) :
    Calls Try.prog 22 #[v, .agg #[.int .u64 a.h, .int .u64 a.l, .bool a.v], .agg #[.int .u64 x.p.a.h, .int .u64 x.p.a.l, .bool x.p.a.v, .int .i64 x.p.n, .int .i64 x.hop]] w fun e w' => (∃ v', e = .returned (.tuple #[v', .int .i64 2]) ∧ IsQ w' v' xs bd) ∧ Kept w w' := by
  obtain ⟨A, cap, rfl, hc, hr, hty⟩ := hq
  have hu := Try.underlying26
  have hu2 := Try.underlying34
  have hu3 := Try.underlying38
  have hq : IsQ w (.agg #[.slice A xs.length cap, .int .i64 bd]) xs bd := ⟨A, cap, rfl, hc, hr, hty⟩
  have d0 : (firE xs a == -1) = true := by simpa using hf
  have d1 : ((xs.length : Int) == bd) = false := by simpa using hl
  have Hf := Lib.hid hf
  have Hl := Lib.hid hl
  have Hfit := Lib.hid hfit
  clear hf hl hfit
  go_enter Try.func22, Try.ntmps22
  go_wp2_with fail
  obtain ⟨W, hW⟩ : ∃ W, (((w.alloc (.cells #[.slice A xs.length cap, .int .i64 bd] 26)).alloc (.cells #[.int .u64 a.h, .int .u64 a.l, .bool a.v] 34)).alloc (.cells #[.int .u64 x.p.a.h, .int .u64 x.p.a.l, .bool x.p.a.v, .int .i64 x.p.n, .int .i64 x.hop] 38)).alloc (.cells #[.slice none 0 0, .int .i64 0] 26) = W := ⟨_, rfl⟩
  have B0 : Blk W w.heap.size 26 #[.slice A xs.length cap, .int .i64 bd] := hW ▸ (((Blk.new _ _ _).alloc _).alloc _).alloc _
  have B1 : Blk W (w.heap.size + 1) 34 #[.int .u64 a.h, .int .u64 a.l, .bool a.v] := hW ▸ ((Blk.new2 _ _ _ _).alloc _).alloc _
  have B2 : Blk W (w.heap.size + 1 + 1) 38 #[.int .u64 x.p.a.h, .int .u64 x.p.a.l, .bool x.p.a.v, .int .i64 x.p.n, .int .i64 x.hop] := hW ▸ (Blk.new3 _ _ _ _ _).alloc _
  have B3 : Blk W (w.heap.size + 1 + 1 + 1) 26 #[.slice none 0 0, .int .i64 0] := hW ▸ Blk.new4 _ _ _ _ _ _
  have hK : Kept w W := hW ▸ ((((Kept.refl w).alloc _).alloc _).alloc _).alloc _
  rw [hW]
  clear hW
  refine (queue_Sane_is _ _ _ _ (hq.below (Nat.le_refl _) hK.out) hlen hs).mono ?_
  rintro e w1 ⟨rfl, hb1⟩
  have B0 := B0.call hb1.out
  have B1 := B1.call hb1.out
  have B2 := B2.call hb1.out
  have B3 := B3.call hb1.out
  have hK := hK.call hb1.out
  clear hb1
  obtain ⟨c0, f0⟩ := B0.facts
  obtain ⟨c1, f1⟩ := B1.facts
  obtain ⟨c2, f2⟩ := B2.facts
  obtain ⟨c3, f3⟩ := B3.facts
  have z0 := B0.lt
  have z1 := B1.lt
  have z2 := B2.lt
  have z3 := B3.lt
  have hr1 := (hr.below hK.out).more hK.size
  go_wp2_with fail
  refine (queue_first A cap a xs (by omega) _ hr1).mono ?_
  rintro e w2 ⟨rfl, hb2⟩
  clear c0 f0 z0 c1 f1 z1 c2 f2 z2 c3 f3 z3
  have B0 := B0.call hb2.out
  have B1 := B1.call hb2.out
  have B2 := B2.call hb2.out
  have B3 := B3.call hb2.out
  have hK := hK.call hb2.out
  clear hb2
  obtain ⟨c0, f0⟩ := B0.facts
  obtain ⟨c1, f1⟩ := B1.facts
  obtain ⟨c2, f2⟩ := B2.facts
  obtain ⟨c3, f3⟩ := B3.facts
  have z0 := B0.lt
  have z1 := B1.lt
  have z2 := B2.lt
  have z3 := B3.lt
  go_wp2_with fail
  refine (queue_fits_is a x _ Hfit.out).mono ?_
  rintro e w3 ⟨rfl, hb3⟩
  clear c0 f0 z0 c1 f1 z1 c2 f2 z2 c3 f3 z3
  have B0 := B0.call hb3.out
  have B1 := B1.call hb3.out
  have B2 := B2.call hb3.out
  have B3 := B3.call hb3.out
  have hK := hK.call hb3.out
  clear hb3
  obtain ⟨c0, f0⟩ := B0.facts
  obtain ⟨c1, f1⟩ := B1.facts
  obtain ⟨c2, f2⟩ := B2.facts
  obtain ⟨c3, f3⟩ := B3.facts
  have z0 := B0.lt
  have z1 := B1.lt
  have z2 := B2.lt
  have z3 := B3.lt
  go_wp2_with fail
  exact ret_blk_tmp rfl rfl ((B3.put 0 _ rfl).put 1 _ rfl) hu rfl (by kernel_rfl) rfl ⟨⟨_, rfl, hq.below (Nat.le_refl _) (((hK.set (by omega)).set (by omega))).out⟩, ((hK.set (by omega)).set (by omega))⟩
end Go.Proofs.Ytapiffkeclnbbaa.Q
