import Derived.Test.YtapiffkeclnbbaaProg
import Derived.Below
import Derived.Deep.Draws
import Derived.Deep.AppendLies
import Derived.Maps.AppendAt
import Derived.OwnWalk
import Derived.Laws.MakeOwn
import Derived.Laws.OwnMore
import Derived.Deep.OwnRows
import Derived.Tactics
import Derived.Laws.Slices
import Derived.WalkKit
import Derived.KernelRfl
import Derived.RowKit3
import Derived.Deep.LoopGhost
import Derived.Deep.QuietTactic
import Derived.BigQuiet
import Derived.WideLaws
import Derived.Deep.DeepCutAuto
import Derived.Deep.CutBlock
import Derived.Deep.RegionHeld3
import Derived.Deep.RegionWith
import Derived.Deep.RegionLaw
import Derived.Laws.Rows
import Derived.ArgAppend
import Derived.OrdersHeld
import Derived.Laws.BitsLemmas
import Derived.Laws.StructEq
import Derived.RowKit
import Derived.Lib.Hide
import Derived.Lib.SliceRun
import Derived.StillTail
import Derived.Test.YtapiffkeclnbbaaB0
import Derived.Test.YtapiffkeclnbbaaB1
import Derived.Test.YtapiffkeclnbbaaB2
import Derived.Test.YtapiffkeclnbbaaB3
import Derived.Test.YtapiffkeclnbbaaB4
import Derived.Test.YtapiffkeclnbbaaB5
import Derived.Test.YtapiffkeclnbbaaB6
import Derived.Test.YtapiffkeclnbbaaB7
import Derived.Test.YtapiffkeclnbbaaB8
import Derived.Test.YtapiffkeclnbbaaA1
import Derived.Test.YtapiffkeclnbbaaA2
import Derived.Test.YtapiffkeclnbbaaA3
import Derived.Test.YtapiffkeclnbbaaA4
import Derived.Test.YtapiffkeclnbbaaA5
import Derived.Test.YtapiffkeclnbbaaA6
import Derived.Test.YtapiffkeclnbbaaQ1
import Derived.Test.YtapiffkeclnbbaaQ2
import Derived.Test.YtapiffkeclnbbaaQ3
import Derived.Test.YtapiffkeclnbbaaQ4
import Derived.Test.YtapiffkeclnbbaaQ5
import Derived.Test.YtapiffkeclnbbaaQ6
import Derived.Test.YtapiffkeclnbbaaQ7
import Derived.Test.YtapiffkeclnbbaaQ8
import Derived.Test.YtapiffkeclnbbaaQ9
import Derived.Test.YtapiffkeclnbbaaQ10
import Derived.Test.YtapiffkeclnbbaaQ11
import Derived.Test.YtapiffkeclnbbaaQ12
import Derived.Test.YtapiffkeclnbbaaQ13
import Derived.Test.YtapiffkeclnbbaaQ14
import Derived.Test.YtapiffkeclnbbaaQ15
import Derived.Test.YtapiffkeclnbbaaQ16
import Derived.Test.YtapiffkeclnbbaaQ17
/-! kedgelaw14.QueueOnce, walked. -/
set_option linter.unusedVariables false
set_option linter.unusedSimpArgs false
namespace Go.Proofs.Ytapiffkeclnbbaa.Q
open Go.RowKit Go.Proofs.Ytapiffkeclnbbaa.B0 Go.Proofs.Ytapiffkeclnbbaa.A2
attribute [local irreducible] wpHq
attribute [local go_sem high] eqA34 eqA36 eqA38
set_option maxHeartbeats 1000000 in
set_option maxRecDepth 100000 in
theorem once_long (A : Option Addr) (cap : Nat) (xs : List EntryV) (bd : Int) (a : AddrV) (x : RouteV) (b : AddrV) (w : World) (hr : Rd w w.heap.size 9 encE A xs) (hc : xs.length ≤ cap) (hl : 60 < xs.length) :
    Calls Try.prog 5 #[.agg #[.slice A xs.length cap, .int .i64 bd], .agg #[.int .u64 a.h, .int .u64 a.l, .bool a.v], .agg #[.int .u64 x.p.a.h, .int .u64 x.p.a.l, .bool x.p.a.v, .int .i64 x.p.n, .int .i64 x.hop], .agg #[.int .u64 b.h, .int .u64 b.l, .bool b.v]] w fun e w' => e = .returned (.bool true) ∧ Kept w w' := by
  have hu := Try.underlying26
  have hu2 := Try.underlying34
  have hu3 := Try.underlying38
  have hu4 := Try.underlying48
  have hu5 := Try.underlying51
  have hu6 := Try.underlying30
  have hu7 := Try.underlying36
  have d0 : decide ((60 : Int) < (xs.length : Int)) = true := decide_eq_true (by omega)
  go_enter Try.func5, Try.ntmps5
  go_wp2_with fail
  obtain ⟨W, hW⟩ : ∃ W, (((w.alloc (.cells #[.slice A xs.length cap, .int .i64 bd] 30)).alloc (.cells #[.int .u64 a.h, .int .u64 a.l, .bool a.v] 34)).alloc (.cells #[.int .u64 x.p.a.h, .int .u64 x.p.a.l, .bool x.p.a.v, .int .i64 x.p.n, .int .i64 x.hop] 38)).alloc (.cells #[.int .u64 b.h, .int .u64 b.l, .bool b.v] 34) = W := ⟨_, rfl⟩
  have B0 : Blk W w.heap.size 30 #[.slice A xs.length cap, .int .i64 bd] := hW ▸ (((Blk.new _ _ _).alloc _).alloc _).alloc _
  have B1 : Blk W (w.heap.size + 1) 34 #[.int .u64 a.h, .int .u64 a.l, .bool a.v] := hW ▸ ((Blk.new2 _ _ _ _).alloc _).alloc _
  have B2 : Blk W (w.heap.size + 1 + 1) 38 #[.int .u64 x.p.a.h, .int .u64 x.p.a.l, .bool x.p.a.v, .int .i64 x.p.n, .int .i64 x.hop] := hW ▸ (Blk.new3 _ _ _ _ _).alloc _
  have B3 : Blk W (w.heap.size + 1 + 1 + 1) 34 #[.int .u64 b.h, .int .u64 b.l, .bool b.v] := hW ▸ Blk.new4 _ _ _ _ _ _
  have hK : Kept w W := hW ▸ ((((Kept.refl w).alloc _).alloc _).alloc _).alloc _
  rw [hW]
  clear hW
  refine (queue_awake _).mono ?_
  rintro e w1 ⟨rfl, hb1⟩
  have B0 := B0.call hb1.out
  have B1 := B1.call hb1.out
  have B2 := B2.call hb1.out
  have B3 := B3.call hb1.out
  have hK := hK.call hb1.out
  clear hb1
  obtain ⟨c0, f0⟩ := B0.facts
  have z0 := B0.lt
  go_wp2_with fail
  go_ret
  exact ⟨rfl, hK⟩
set_option maxHeartbeats 1000000 in
set_option maxRecDepth 100000 in
theorem once_insane (A : Option Addr) (cap : Nat) (xs : List EntryV) (bd : Int) (a : AddrV) (x : RouteV) (b : AddrV) (w : World) (hr : Rd w w.heap.size 9 encE A xs) (hc : xs.length ≤ cap) (hl : xs.length ≤ 60) (hs : saneQ xs bd = false) :
    Calls Try.prog 5 #[.agg #[.slice A xs.length cap, .int .i64 bd], .agg #[.int .u64 a.h, .int .u64 a.l, .bool a.v], .agg #[.int .u64 x.p.a.h, .int .u64 x.p.a.l, .bool x.p.a.v, .int .i64 x.p.n, .int .i64 x.hop], .agg #[.int .u64 b.h, .int .u64 b.l, .bool b.v]] w fun e w' => e = .returned (.bool true) ∧ Kept w w' := by
  have hu := Try.underlying26
  have hu2 := Try.underlying34
  have hu3 := Try.underlying38
  have hu4 := Try.underlying48
  have hu5 := Try.underlying51
  have hu6 := Try.underlying30
  have hu7 := Try.underlying36
  have d0 : decide ((60 : Int) < (xs.length : Int)) = false := decide_eq_false (by omega)
  go_enter Try.func5, Try.ntmps5
  go_wp2_with fail
  obtain ⟨W, hW⟩ : ∃ W, (((w.alloc (.cells #[.slice A xs.length cap, .int .i64 bd] 30)).alloc (.cells #[.int .u64 a.h, .int .u64 a.l, .bool a.v] 34)).alloc (.cells #[.int .u64 x.p.a.h, .int .u64 x.p.a.l, .bool x.p.a.v, .int .i64 x.p.n, .int .i64 x.hop] 38)).alloc (.cells #[.int .u64 b.h, .int .u64 b.l, .bool b.v] 34) = W := ⟨_, rfl⟩
  have B0 : Blk W w.heap.size 30 #[.slice A xs.length cap, .int .i64 bd] := hW ▸ (((Blk.new _ _ _).alloc _).alloc _).alloc _
  have B1 : Blk W (w.heap.size + 1) 34 #[.int .u64 a.h, .int .u64 a.l, .bool a.v] := hW ▸ ((Blk.new2 _ _ _ _).alloc _).alloc _
  have B2 : Blk W (w.heap.size + 1 + 1) 38 #[.int .u64 x.p.a.h, .int .u64 x.p.a.l, .bool x.p.a.v, .int .i64 x.p.n, .int .i64 x.hop] := hW ▸ (Blk.new3 _ _ _ _ _).alloc _
  have B3 : Blk W (w.heap.size + 1 + 1 + 1) 34 #[.int .u64 b.h, .int .u64 b.l, .bool b.v] := hW ▸ Blk.new4 _ _ _ _ _ _
  have hK : Kept w W := hW ▸ ((((Kept.refl w).alloc _).alloc _).alloc _).alloc _
  rw [hW]
  clear hW
  refine (queue_awake _).mono ?_
  rintro e w1 ⟨rfl, hb1⟩
  have B0 := B0.call hb1.out
  have B1 := B1.call hb1.out
  have B2 := B2.call hb1.out
  have B3 := B3.call hb1.out
  have hK := hK.call hb1.out
  clear hb1
  obtain ⟨c0, f0⟩ := B0.facts
  have z0 := B0.lt
  go_wp2_with fail
  refine (law_ours A cap xs bd _ ((hr.below hK.out).more hK.size) hc (by omega)).mono ?_
  rintro e w2 ⟨⟨v2, rfl, hq2⟩, hb2⟩
  go_wp2_with fail
  refine (queue_Sane_is _ _ _ _ hq2 (by omega) hs).mono ?_
  rintro e w3 ⟨rfl, hb3⟩
  clear c0 f0 z0
  have B0 := B0.call hb2.out
  have B1 := B1.call hb2.out
  have B2 := B2.call hb2.out
  have B3 := B3.call hb2.out
  have hK := hK.call hb2.out
  have B0 := B0.call hb3.out
  have B1 := B1.call hb3.out
  have B2 := B2.call hb3.out
  have B3 := B3.call hb3.out
  have hK := hK.call hb3.out
  clear hb2 hb3 hq2
  obtain ⟨c0, f0⟩ := B0.facts
  have z0 := B0.lt
  go_wp2_with fail
  go_ret
  exact ⟨rfl, hK⟩
set_option maxHeartbeats 1000000 in
set_option maxRecDepth 100000 in
theorem once_dup (A : Option Addr) (cap : Nat) (xs : List EntryV) (bd : Int) (a : AddrV) (x : RouteV) (b : AddrV) (w : World) (hr : Rd w w.heap.size 9 encE A xs) (hc : xs.length ≤ cap) (hl : xs.length ≤ 60) (hs : saneQ xs bd = true) (hf : firE xs a ≠ -1) :
    Calls Try.prog 5 #[.agg #[.slice A xs.length cap, .int .i64 bd], .agg #[.int .u64 a.h, .int .u64 a.l, .bool a.v], .agg #[.int .u64 x.p.a.h, .int .u64 x.p.a.l, .bool x.p.a.v, .int .i64 x.p.n, .int .i64 x.hop], .agg #[.int .u64 b.h, .int .u64 b.l, .bool b.v]] w fun e w' => e = .returned (.bool true) ∧ Kept w w' := by
  have hu := Try.underlying26
  have hu2 := Try.underlying34
  have hu3 := Try.underlying38
  have hu4 := Try.underlying48
  have hu5 := Try.underlying51
  have hu6 := Try.underlying30
  have hu7 := Try.underlying36
  have d0 : decide ((60 : Int) < (xs.length : Int)) = false := decide_eq_false (by omega)
  go_enter Try.func5, Try.ntmps5
  go_wp2_with fail
  obtain ⟨W, hW⟩ : ∃ W, (((w.alloc (.cells #[.slice A xs.length cap, .int .i64 bd] 30)).alloc (.cells #[.int .u64 a.h, .int .u64 a.l, .bool a.v] 34)).alloc (.cells #[.int .u64 x.p.a.h, .int .u64 x.p.a.l, .bool x.p.a.v, .int .i64 x.p.n, .int .i64 x.hop] 38)).alloc (.cells #[.int .u64 b.h, .int .u64 b.l, .bool b.v] 34) = W := ⟨_, rfl⟩
  have B0 : Blk W w.heap.size 30 #[.slice A xs.length cap, .int .i64 bd] := hW ▸ (((Blk.new _ _ _).alloc _).alloc _).alloc _
  have B1 : Blk W (w.heap.size + 1) 34 #[.int .u64 a.h, .int .u64 a.l, .bool a.v] := hW ▸ ((Blk.new2 _ _ _ _).alloc _).alloc _
  have B2 : Blk W (w.heap.size + 1 + 1) 38 #[.int .u64 x.p.a.h, .int .u64 x.p.a.l, .bool x.p.a.v, .int .i64 x.p.n, .int .i64 x.hop] := hW ▸ (Blk.new3 _ _ _ _ _).alloc _
  have B3 : Blk W (w.heap.size + 1 + 1 + 1) 34 #[.int .u64 b.h, .int .u64 b.l, .bool b.v] := hW ▸ Blk.new4 _ _ _ _ _ _
  have hK : Kept w W := hW ▸ ((((Kept.refl w).alloc _).alloc _).alloc _).alloc _
  rw [hW]
  clear hW
  refine (queue_awake _).mono ?_
  rintro e w1 ⟨rfl, hb1⟩
  have B0 := B0.call hb1.out
  have B1 := B1.call hb1.out
  have B2 := B2.call hb1.out
  have B3 := B3.call hb1.out
  have hK := hK.call hb1.out
  clear hb1
  obtain ⟨c0, f0⟩ := B0.facts
  have z0 := B0.lt
  go_wp2_with fail
  refine (law_ours A cap xs bd _ ((hr.below hK.out).more hK.size) hc (by omega)).mono ?_
  rintro e w2 ⟨⟨v2, rfl, hq2⟩, hb2⟩
  go_wp2_with fail
  refine (queue_Sane_is _ _ _ _ hq2 (by omega) hs).mono ?_
  rintro e w3 ⟨rfl, hb3⟩
  clear c0 f0 z0
  have B0 := B0.call hb2.out
  have B1 := B1.call hb2.out
  have B2 := B2.call hb2.out
  have B3 := B3.call hb2.out
  have hK := hK.call hb2.out
  have B0 := B0.call hb3.out
  have B1 := B1.call hb3.out
  have B2 := B2.call hb3.out
  have B3 := B3.call hb3.out
  have hK := hK.call hb3.out
  clear hb2 hb3 hq2
  obtain ⟨c0, f0⟩ := B0.facts
  have z0 := B0.lt
  go_wp2_with fail
  refine (law_ours A cap xs bd _ ((hr.below hK.out).more hK.size) hc (by omega)).mono ?_
  rintro e w4 ⟨⟨v4, rfl, hq4⟩, hb4⟩
  clear c0 f0 z0
  have B0 := B0.call hb4.out
  have B1 := B1.call hb4.out
  have B2 := B2.call hb4.out
  have B3 := B3.call hb4.out
  have hK := hK.call hb4.out
  clear hb4
  obtain ⟨A4, cap4, rfl, _⟩ := id hq4
  obtain ⟨c0, f0⟩ := B0.facts
  obtain ⟨c1, f1⟩ := B1.facts
  obtain ⟨c2, f2⟩ := B2.facts
  obtain ⟨c3, f3⟩ := B3.facts
  have z0 := B0.lt
  have z1 := B1.lt
  have z2 := B2.lt
  have z3 := B3.lt
  go_wp2_with fail
  clear c0 f0 z0 c1 f1 z1 c2 f2 z2 c3 f3 z3
  have B0 := B0.alloc (.cells #[.slice A4 xs.length cap4, .int .i64 bd] 26)
  have B1 := B1.alloc (.cells #[.slice A4 xs.length cap4, .int .i64 bd] 26)
  have B2 := B2.alloc (.cells #[.slice A4 xs.length cap4, .int .i64 bd] 26)
  have B3 := B3.alloc (.cells #[.slice A4 xs.length cap4, .int .i64 bd] 26)
  have BO := Blk.new w4 26 #[.slice A4 xs.length cap4, .int .i64 bd]
  have hq := hq4.alloc (.cells #[.slice A4 xs.length cap4, .int .i64 bd] 26)
  have hK := hK.alloc (.cells #[.slice A4 xs.length cap4, .int .i64 bd] 26)
  refine (queue_Offer_dup _ xs bd a x _ hq (by omega) hs hf).mono ?_
  rintro e w5 ⟨⟨v5, rfl, hq5⟩, hb5⟩
  obtain ⟨A5, cap5, rfl, _⟩ := id hq5
  have B0 := B0.call hb5.out
  have B1 := B1.call hb5.out
  have B2 := B2.call hb5.out
  have B3 := B3.call hb5.out
  have BO := BO.call hb5.out
  have hK := hK.call hb5.out
  clear hb5
  obtain ⟨c0, f0⟩ := B0.facts
  have z0 := B0.lt
  go_wp2_with fail
  go_ret
  exact ⟨rfl, hK.alloc _⟩
set_option maxHeartbeats 1000000 in
set_option maxRecDepth 100000 in
theorem once_full (A : Option Addr) (cap : Nat) (xs : List EntryV) (bd : Int) (a : AddrV) (x : RouteV) (b : AddrV) (w : World) (hr : Rd w w.heap.size 9 encE A xs) (hc : xs.length ≤ cap) (hl : xs.length ≤ 60) (hs : saneQ xs bd = true) (hf : firE xs a = -1) (hb : (xs.length : Int) = bd) :
    Calls Try.prog 5 #[.agg #[.slice A xs.length cap, .int .i64 bd], .agg #[.int .u64 a.h, .int .u64 a.l, .bool a.v], .agg #[.int .u64 x.p.a.h, .int .u64 x.p.a.l, .bool x.p.a.v, .int .i64 x.p.n, .int .i64 x.hop], .agg #[.int .u64 b.h, .int .u64 b.l, .bool b.v]] w fun e w' => e = .returned (.bool true) ∧ Kept w w' := by
  have hu := Try.underlying26
  have hu2 := Try.underlying34
  have hu3 := Try.underlying38
  have hu4 := Try.underlying48
  have hu5 := Try.underlying51
  have hu6 := Try.underlying30
  have hu7 := Try.underlying36
  have d0 : decide ((60 : Int) < (xs.length : Int)) = false := decide_eq_false (by omega)
  go_enter Try.func5, Try.ntmps5
  go_wp2_with fail
  obtain ⟨W, hW⟩ : ∃ W, (((w.alloc (.cells #[.slice A xs.length cap, .int .i64 bd] 30)).alloc (.cells #[.int .u64 a.h, .int .u64 a.l, .bool a.v] 34)).alloc (.cells #[.int .u64 x.p.a.h, .int .u64 x.p.a.l, .bool x.p.a.v, .int .i64 x.p.n, .int .i64 x.hop] 38)).alloc (.cells #[.int .u64 b.h, .int .u64 b.l, .bool b.v] 34) = W := ⟨_, rfl⟩
  have B0 : Blk W w.heap.size 30 #[.slice A xs.length cap, .int .i64 bd] := hW ▸ (((Blk.new _ _ _).alloc _).alloc _).alloc _
  have B1 : Blk W (w.heap.size + 1) 34 #[.int .u64 a.h, .int .u64 a.l, .bool a.v] := hW ▸ ((Blk.new2 _ _ _ _).alloc _).alloc _
  have B2 : Blk W (w.heap.size + 1 + 1) 38 #[.int .u64 x.p.a.h, .int .u64 x.p.a.l, .bool x.p.a.v, .int .i64 x.p.n, .int .i64 x.hop] := hW ▸ (Blk.new3 _ _ _ _ _).alloc _
  have B3 : Blk W (w.heap.size + 1 + 1 + 1) 34 #[.int .u64 b.h, .int .u64 b.l, .bool b.v] := hW ▸ Blk.new4 _ _ _ _ _ _
  have hK : Kept w W := hW ▸ ((((Kept.refl w).alloc _).alloc _).alloc _).alloc _
  rw [hW]
  clear hW
  refine (queue_awake _).mono ?_
  rintro e w1 ⟨rfl, hb1⟩
  have B0 := B0.call hb1.out
  have B1 := B1.call hb1.out
  have B2 := B2.call hb1.out
  have B3 := B3.call hb1.out
  have hK := hK.call hb1.out
  clear hb1
  obtain ⟨c0, f0⟩ := B0.facts
  have z0 := B0.lt
  go_wp2_with fail
  refine (law_ours A cap xs bd _ ((hr.below hK.out).more hK.size) hc (by omega)).mono ?_
  rintro e w2 ⟨⟨v2, rfl, hq2⟩, hb2⟩
  go_wp2_with fail
  refine (queue_Sane_is _ _ _ _ hq2 (by omega) hs).mono ?_
  rintro e w3 ⟨rfl, hb3⟩
  clear c0 f0 z0
  have B0 := B0.call hb2.out
  have B1 := B1.call hb2.out
  have B2 := B2.call hb2.out
  have B3 := B3.call hb2.out
  have hK := hK.call hb2.out
  have B0 := B0.call hb3.out
  have B1 := B1.call hb3.out
  have B2 := B2.call hb3.out
  have B3 := B3.call hb3.out
  have hK := hK.call hb3.out
  clear hb2 hb3 hq2
  obtain ⟨c0, f0⟩ := B0.facts
  have z0 := B0.lt
  go_wp2_with fail
  refine (law_ours A cap xs bd _ ((hr.below hK.out).more hK.size) hc (by omega)).mono ?_
  rintro e w4 ⟨⟨v4, rfl, hq4⟩, hb4⟩
  clear c0 f0 z0
  have B0 := B0.call hb4.out
  have B1 := B1.call hb4.out
  have B2 := B2.call hb4.out
  have B3 := B3.call hb4.out
  have hK := hK.call hb4.out
  clear hb4
  obtain ⟨A4, cap4, rfl, _⟩ := id hq4
  obtain ⟨c0, f0⟩ := B0.facts
  obtain ⟨c1, f1⟩ := B1.facts
  obtain ⟨c2, f2⟩ := B2.facts
  obtain ⟨c3, f3⟩ := B3.facts
  have z0 := B0.lt
  have z1 := B1.lt
  have z2 := B2.lt
  have z3 := B3.lt
  go_wp2_with fail
  clear c0 f0 z0 c1 f1 z1 c2 f2 z2 c3 f3 z3
  have B0 := B0.alloc (.cells #[.slice A4 xs.length cap4, .int .i64 bd] 26)
  have B1 := B1.alloc (.cells #[.slice A4 xs.length cap4, .int .i64 bd] 26)
  have B2 := B2.alloc (.cells #[.slice A4 xs.length cap4, .int .i64 bd] 26)
  have B3 := B3.alloc (.cells #[.slice A4 xs.length cap4, .int .i64 bd] 26)
  have BO := Blk.new w4 26 #[.slice A4 xs.length cap4, .int .i64 bd]
  have hq := hq4.alloc (.cells #[.slice A4 xs.length cap4, .int .i64 bd] 26)
  have hK := hK.alloc (.cells #[.slice A4 xs.length cap4, .int .i64 bd] 26)
  refine (queue_Offer_full _ xs bd a x _ hq (by omega) hs hf hb).mono ?_
  rintro e w5 ⟨⟨v5, rfl, hq5⟩, hb5⟩
  obtain ⟨A5, cap5, rfl, _⟩ := id hq5
  have B0 := B0.call hb5.out
  have B1 := B1.call hb5.out
  have B2 := B2.call hb5.out
  have B3 := B3.call hb5.out
  have BO := BO.call hb5.out
  have hK := hK.call hb5.out
  clear hb5
  obtain ⟨c0, f0⟩ := B0.facts
  have z0 := B0.lt
  go_wp2_with fail
  go_ret
  exact ⟨rfl, hK.alloc _⟩
set_option maxHeartbeats 1000000 in
set_option maxRecDepth 100000 in
theorem once_unfit (A : Option Addr) (cap : Nat) (xs : List EntryV) (bd : Int) (a : AddrV) (x : RouteV) (b : AddrV) (w : World) (hr : Rd w w.heap.size 9 encE A xs) (hc : xs.length ≤ cap) (hl : xs.length ≤ 60) (hs : saneQ xs bd = true) (hf : firE xs a = -1) (hb : (xs.length : Int) ≠ bd) (hfit : fitE a x = false) :
    Calls Try.prog 5 #[.agg #[.slice A xs.length cap, .int .i64 bd], .agg #[.int .u64 a.h, .int .u64 a.l, .bool a.v], .agg #[.int .u64 x.p.a.h, .int .u64 x.p.a.l, .bool x.p.a.v, .int .i64 x.p.n, .int .i64 x.hop], .agg #[.int .u64 b.h, .int .u64 b.l, .bool b.v]] w fun e w' => e = .returned (.bool true) ∧ Kept w w' := by
  have hu := Try.underlying26
  have hu2 := Try.underlying34
  have hu3 := Try.underlying38
  have hu4 := Try.underlying48
  have hu5 := Try.underlying51
  have hu6 := Try.underlying30
  have hu7 := Try.underlying36
  have d0 : decide ((60 : Int) < (xs.length : Int)) = false := decide_eq_false (by omega)
  go_enter Try.func5, Try.ntmps5
  go_wp2_with fail
  obtain ⟨W, hW⟩ : ∃ W, (((w.alloc (.cells #[.slice A xs.length cap, .int .i64 bd] 30)).alloc (.cells #[.int .u64 a.h, .int .u64 a.l, .bool a.v] 34)).alloc (.cells #[.int .u64 x.p.a.h, .int .u64 x.p.a.l, .bool x.p.a.v, .int .i64 x.p.n, .int .i64 x.hop] 38)).alloc (.cells #[.int .u64 b.h, .int .u64 b.l, .bool b.v] 34) = W := ⟨_, rfl⟩
  have B0 : Blk W w.heap.size 30 #[.slice A xs.length cap, .int .i64 bd] := hW ▸ (((Blk.new _ _ _).alloc _).alloc _).alloc _
  have B1 : Blk W (w.heap.size + 1) 34 #[.int .u64 a.h, .int .u64 a.l, .bool a.v] := hW ▸ ((Blk.new2 _ _ _ _).alloc _).alloc _
  have B2 : Blk W (w.heap.size + 1 + 1) 38 #[.int .u64 x.p.a.h, .int .u64 x.p.a.l, .bool x.p.a.v, .int .i64 x.p.n, .int .i64 x.hop] := hW ▸ (Blk.new3 _ _ _ _ _).alloc _
  have B3 : Blk W (w.heap.size + 1 + 1 + 1) 34 #[.int .u64 b.h, .int .u64 b.l, .bool b.v] := hW ▸ Blk.new4 _ _ _ _ _ _
  have hK : Kept w W := hW ▸ ((((Kept.refl w).alloc _).alloc _).alloc _).alloc _
  rw [hW]
  clear hW
  refine (queue_awake _).mono ?_
  rintro e w1 ⟨rfl, hb1⟩
  have B0 := B0.call hb1.out
  have B1 := B1.call hb1.out
  have B2 := B2.call hb1.out
  have B3 := B3.call hb1.out
  have hK := hK.call hb1.out
  clear hb1
  obtain ⟨c0, f0⟩ := B0.facts
  have z0 := B0.lt
  go_wp2_with fail
  refine (law_ours A cap xs bd _ ((hr.below hK.out).more hK.size) hc (by omega)).mono ?_
  rintro e w2 ⟨⟨v2, rfl, hq2⟩, hb2⟩
  go_wp2_with fail
  refine (queue_Sane_is _ _ _ _ hq2 (by omega) hs).mono ?_
  rintro e w3 ⟨rfl, hb3⟩
  clear c0 f0 z0
  have B0 := B0.call hb2.out
  have B1 := B1.call hb2.out
  have B2 := B2.call hb2.out
  have B3 := B3.call hb2.out
  have hK := hK.call hb2.out
  have B0 := B0.call hb3.out
  have B1 := B1.call hb3.out
  have B2 := B2.call hb3.out
  have B3 := B3.call hb3.out
  have hK := hK.call hb3.out
  clear hb2 hb3 hq2
  obtain ⟨c0, f0⟩ := B0.facts
  have z0 := B0.lt
  go_wp2_with fail
  refine (law_ours A cap xs bd _ ((hr.below hK.out).more hK.size) hc (by omega)).mono ?_
  rintro e w4 ⟨⟨v4, rfl, hq4⟩, hb4⟩
  clear c0 f0 z0
  have B0 := B0.call hb4.out
  have B1 := B1.call hb4.out
  have B2 := B2.call hb4.out
  have B3 := B3.call hb4.out
  have hK := hK.call hb4.out
  clear hb4
  obtain ⟨A4, cap4, rfl, _⟩ := id hq4
  obtain ⟨c0, f0⟩ := B0.facts
  obtain ⟨c1, f1⟩ := B1.facts
  obtain ⟨c2, f2⟩ := B2.facts
  obtain ⟨c3, f3⟩ := B3.facts
  have z0 := B0.lt
  have z1 := B1.lt
  have z2 := B2.lt
  have z3 := B3.lt
  go_wp2_with fail
  clear c0 f0 z0 c1 f1 z1 c2 f2 z2 c3 f3 z3
  have B0 := B0.alloc (.cells #[.slice A4 xs.length cap4, .int .i64 bd] 26)
  have B1 := B1.alloc (.cells #[.slice A4 xs.length cap4, .int .i64 bd] 26)
  have B2 := B2.alloc (.cells #[.slice A4 xs.length cap4, .int .i64 bd] 26)
  have B3 := B3.alloc (.cells #[.slice A4 xs.length cap4, .int .i64 bd] 26)
  have BO := Blk.new w4 26 #[.slice A4 xs.length cap4, .int .i64 bd]
  have hq := hq4.alloc (.cells #[.slice A4 xs.length cap4, .int .i64 bd] 26)
  have hK := hK.alloc (.cells #[.slice A4 xs.length cap4, .int .i64 bd] 26)
  refine (queue_Offer_unfit _ xs bd a x _ hq (by omega) hs hf hb hfit).mono ?_
  rintro e w5 ⟨⟨v5, rfl, hq5⟩, hb5⟩
  obtain ⟨A5, cap5, rfl, _⟩ := id hq5
  have B0 := B0.call hb5.out
  have B1 := B1.call hb5.out
  have B2 := B2.call hb5.out
  have B3 := B3.call hb5.out
  have BO := BO.call hb5.out
  have hK := hK.call hb5.out
  clear hb5
  obtain ⟨c0, f0⟩ := B0.facts
  have z0 := B0.lt
  go_wp2_with fail
  go_ret
  exact ⟨rfl, hK.alloc _⟩
end Go.Proofs.Ytapiffkeclnbbaa.Q
