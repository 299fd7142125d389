import Derived.Test.YtapiffkeclnbbaaProg
import Derived.Below
import Derived.Deep.Draws
import Derived.Deep.AppendLies
import Derived.Maps.AppendAt
import Derived.OwnWalk
import Derived.Laws.MakeOwn
import Derived.Laws.OwnMore
import Derived.Deep.OwnRows
import Derived.Tactics
import Derived.Laws.Slices
import Derived.WalkKit
import Derived.KernelRfl
import Derived.RowKit3
import Derived.Deep.LoopGhost
import Derived.Deep.QuietTactic
import Derived.BigQuiet
import Derived.WideLaws
import Derived.Deep.DeepCutAuto
import Derived.Deep.CutBlock
import Derived.Deep.RegionHeld3
import Derived.Deep.RegionWith
import Derived.Deep.RegionLaw
import Derived.Laws.Rows
import Derived.ArgAppend
import Derived.OrdersHeld
import Derived.Laws.BitsLemmas
import Derived.Laws.StructEq
import Derived.RowKit
import Derived.Lib.Hide
import Derived.Lib.SliceRun
import Derived.StillTail
import Derived.Test.YtapiffkeclnbbaaB0
import Derived.Test.YtapiffkeclnbbaaB1
import Derived.Test.YtapiffkeclnbbaaB2
import Derived.Test.YtapiffkeclnbbaaB3
import Derived.Test.YtapiffkeclnbbaaB4
import Derived.Test.YtapiffkeclnbbaaB5
import Derived.Test.YtapiffkeclnbbaaB6
import Derived.Test.YtapiffkeclnbbaaB7
import Derived.Test.YtapiffkeclnbbaaB8
import Derived.Test.YtapiffkeclnbbaaA1
import Derived.Test.YtapiffkeclnbbaaA2
import Derived.Test.YtapiffkeclnbbaaA3
import Derived.Test.YtapiffkeclnbbaaA4
import Derived.Test.YtapiffkeclnbbaaA5
import Derived.Test.YtapiffkeclnbbaaA6
import Derived.Test.YtapiffkeclnbbaaQ1
import Derived.Test.YtapiffkeclnbbaaQ2
import Derived.Test.YtapiffkeclnbbaaQ3
import Derived.Test.YtapiffkeclnbbaaQ4
import Derived.Test.YtapiffkeclnbbaaQ5
import Derived.Test.YtapiffkeclnbbaaQ6
import Derived.Test.YtapiffkeclnbbaaQ7
import Derived.Test.YtapiffkeclnbbaaQ8
import Derived.Test.YtapiffkeclnbbaaQ9
import Derived.Test.YtapiffkeclnbbaaQ10
import Derived.Test.YtapiffkeclnbbaaQ11
import Derived.Test.YtapiffkeclnbbaaQ12
import Derived.Test.YtapiffkeclnbbaaQ13
import Derived.Test.YtapiffkeclnbbaaQ14
import Derived.Test.YtapiffkeclnbbaaQ15
import Derived.Test.YtapiffkeclnbbaaQ16
import Derived.Test.YtapiffkeclnbbaaQ17
import Derived.Test.YtapiffkeclnbbaaQ18
/-! kedgelaw14.QueueOnce, where it is enqueued. -/
set_option linter.unusedVariables false
set_option linter.unusedSimpArgs false
namespace Go.Proofs.Ytapiffkeclnbbaa.Q
open Go.RowKit Go.Proofs.Ytapiffkeclnbbaa.B0 Go.Proofs.Ytapiffkeclnbbaa.A2
attribute [local irreducible] wpHq
attribute [local go_sem high] eqA34 eqA36 eqA38
theorem queue_Pending_is {c : Int} (v : Value) (xs : List EntryV) (bd : Int) (a : AddrV) (w : World) (hq : IsQ w v xs bd) (hlen : xs.length ≤ 1024) (h : penQ xs bd a = c) :
    Calls Try.prog 33 #[v, .agg #[.int .u64 a.h, .int .u64 a.l, .bool a.v]] w fun e w' => e = .returned (.int .i64 c) ∧ Kept w w' := h ▸ queue_Pending v xs bd a w hq hlen
set_option maxHeartbeats 1000000 in
set_option maxRecDepth 100000 in
theorem once_ok_true (A : Option Addr) (cap : Nat) (xs : List EntryV) (bd : Int) (a : AddrV) (x : RouteV) (b : AddrV) (w : World) (hr : Rd w w.heap.size 9 encE A xs) (hc : xs.length ≤ cap) (hl : xs.length ≤ 60) (hs : saneQ xs bd = true) (hf : firE xs a = -1) (hb : (xs.length : Int) ≠ bd) (hfit : fitE a x = true) (hcb : conP x.p b = true) :
    Calls Try.prog 5 #[.agg #[.slice A xs.length cap, .int .i64 bd], .agg #[.int .u64 a.h, .int .u64 a.l, .bool a.v], .agg #[.int .u64 x.p.a.h, .int .u64 x.p.a.l, .bool x.p.a.v, .int .i64 x.p.n, .int .i64 x.hop], .agg #[.int .u64 b.h, .int .u64 b.l, .bool b.v]] w fun e w' => e = .returned (.bool true) ∧ Kept w w' := by
  have hu := Try.underlying26
  have hu2 := Try.underlying34
  have hu3 := Try.underlying38
  have hu4 := Try.underlying48
  have hu5 := Try.underlying51
  have hu6 := Try.underlying30
  have hu7 := Try.underlying36
  have d0 : decide ((60 : Int) < (xs.length : Int)) = false := decide_eq_false (by omega)
  have hca : conP x.p a = true := by simp only [fitE, Bool.and_eq_true] at hfit; exact hfit.2.2
  have hsn := saneQ_snoc hs hf hb hfit
  have hfa := firE_last (e := (⟨a, x, false⟩ : EntryV)) hca hf
  have hfh : firE (xs ++ [(⟨a, x, false⟩ : EntryV)]) a ≠ -1 := firE_hit (e := (⟨a, x, false⟩ : EntryV)) hca (by simp)
  have hcode : conP x.p b = true → firE (xs ++ [(⟨a, x, false⟩ : EntryV)]) b ≠ -1 := fun h => firE_hit (e := (⟨a, x, false⟩ : EntryV)) h (by simp)
  have hget : (xs ++ [(⟨a, x, false⟩ : EntryV)])[xs.length]? = some (⟨a, x, false⟩ : EntryV) := by simp
  have hera : (xs ++ [(⟨a, x, false⟩ : EntryV)]).eraseIdx xs.length = xs := by rw [List.eraseIdx_append_of_length_le (Nat.le_refl _)]; simp
  have hyl : (xs ++ [(⟨a, x, false⟩ : EntryV)]).length = xs.length + 1 := by simp
  have Hfit := Lib.hid hfit
  have Hf := Lib.hid hf
  have Hb := Lib.hid hb
  clear hfit hf hb
  go_enter Try.func5, Try.ntmps5
  go_wp2_with fail
  obtain ⟨W, hW⟩ : ∃ W, (((w.alloc (.cells #[.slice A xs.length cap, .int .i64 bd] 30)).alloc (.cells #[.int .u64 a.h, .int .u64 a.l, .bool a.v] 34)).alloc (.cells #[.int .u64 x.p.a.h, .int .u64 x.p.a.l, .bool x.p.a.v, .int .i64 x.p.n, .int .i64 x.hop] 38)).alloc (.cells #[.int .u64 b.h, .int .u64 b.l, .bool b.v] 34) = W := ⟨_, rfl⟩
  have B0 : Blk W w.heap.size 30 #[.slice A xs.length cap, .int .i64 bd] := hW ▸ (((Blk.new _ _ _).alloc _).alloc _).alloc _
  have B1 : Blk W (w.heap.size + 1) 34 #[.int .u64 a.h, .int .u64 a.l, .bool a.v] := hW ▸ ((Blk.new2 _ _ _ _).alloc _).alloc _
  have B2 : Blk W (w.heap.size + 1 + 1) 38 #[.int .u64 x.p.a.h, .int .u64 x.p.a.l, .bool x.p.a.v, .int .i64 x.p.n, .int .i64 x.hop] := hW ▸ (Blk.new3 _ _ _ _ _).alloc _
  have B3 : Blk W (w.heap.size + 1 + 1 + 1) 34 #[.int .u64 b.h, .int .u64 b.l, .bool b.v] := hW ▸ Blk.new4 _ _ _ _ _ _
  have hK : Kept w W := hW ▸ ((((Kept.refl w).alloc _).alloc _).alloc _).alloc _
  rw [hW]
  clear hW
  refine (queue_awake _).mono ?_
  rintro e w1 ⟨rfl, hb1⟩
  have B0 := B0.call hb1.out
  have B1 := B1.call hb1.out
  have B2 := B2.call hb1.out
  have B3 := B3.call hb1.out
  have hK := hK.call hb1.out
  clear hb1
  obtain ⟨c0, f0⟩ := B0.facts
  have z0 := B0.lt
  go_wp2_with fail
  refine (law_ours A cap xs bd _ ((hr.below hK.out).more hK.size) hc (by omega)).mono ?_
  rintro e w2 ⟨⟨v2, rfl, hq2⟩, hb2⟩
  go_wp2_with fail
  refine (queue_Sane_is _ _ _ _ hq2 (by omega) hs).mono ?_
  rintro e w3 ⟨rfl, hb3⟩
  clear c0 f0 z0
  have B0 := B0.call hb2.out
  have B1 := B1.call hb2.out
  have B2 := B2.call hb2.out
  have B3 := B3.call hb2.out
  have hK := hK.call hb2.out
  have B0 := B0.call hb3.out
  have B1 := B1.call hb3.out
  have B2 := B2.call hb3.out
  have B3 := B3.call hb3.out
  have hK := hK.call hb3.out
  clear hb2 hb3 hq2
  obtain ⟨c0, f0⟩ := B0.facts
  have z0 := B0.lt
  go_wp2_with fail
  refine (law_ours A cap xs bd _ ((hr.below hK.out).more hK.size) hc (by omega)).mono ?_
  rintro e w4 ⟨⟨v4, rfl, hq4⟩, hb4⟩
  clear c0 f0 z0
  have B0 := B0.call hb4.out
  have B1 := B1.call hb4.out
  have B2 := B2.call hb4.out
  have B3 := B3.call hb4.out
  have hK := hK.call hb4.out
  clear hb4
  obtain ⟨A4, cap4, rfl, _⟩ := id hq4
  obtain ⟨c0, f0⟩ := B0.facts
  obtain ⟨c1, f1⟩ := B1.facts
  obtain ⟨c2, f2⟩ := B2.facts
  obtain ⟨c3, f3⟩ := B3.facts
  have z0 := B0.lt
  have z1 := B1.lt
  have z2 := B2.lt
  have z3 := B3.lt
  go_wp2_with fail
  clear c0 f0 z0 c1 f1 z1 c2 f2 z2 c3 f3 z3
  have B0 := B0.alloc (.cells #[.slice A4 xs.length cap4, .int .i64 bd] 26)
  have B1 := B1.alloc (.cells #[.slice A4 xs.length cap4, .int .i64 bd] 26)
  have B2 := B2.alloc (.cells #[.slice A4 xs.length cap4, .int .i64 bd] 26)
  have B3 := B3.alloc (.cells #[.slice A4 xs.length cap4, .int .i64 bd] 26)
  have BO := Blk.new w4 26 #[.slice A4 xs.length cap4, .int .i64 bd]
  have hq := hq4.alloc (.cells #[.slice A4 xs.length cap4, .int .i64 bd] 26)
  have hK := hK.alloc (.cells #[.slice A4 xs.length cap4, .int .i64 bd] 26)
  refine (queue_Offer_ok _ xs bd a x _ hq (by omega) hs Hf.out Hb.out Hfit.out).mono ?_
  rintro e w5 ⟨⟨v5, rfl, hq5⟩, hb5⟩
  obtain ⟨ys, hys⟩ : ∃ ys, xs ++ [(⟨a, x, false⟩ : EntryV)] = ys := ⟨_, rfl⟩
  rw [hys] at hsn hfa hfh hcode hget hera hyl hq5
  have Hys := Lib.hid hys
  have Hfa := Lib.hid hfa
  have Hfh := Lib.hid hfh
  have Hcode := Lib.hid hcode
  have Hget := Lib.hid hget
  have Hera := Lib.hid hera
  have Hyl := Lib.hid hyl
  have Hcb := Lib.hid hcb
  have hw : IntKind.i64.wrap ((xs.length : Int) + 1) = (ys.length : Int) := by rw [hyl]; simp [IntKind.wrap, IntKind.bits, IntKind.signed]; omega
  clear hys hfa hfh hcode hget hera hyl hcb
  obtain ⟨A5, cap5, rfl, _⟩ := id hq5
  have B0 := B0.call hb5.out
  have B1 := B1.call hb5.out
  have B2 := B2.call hb5.out
  have B3 := B3.call hb5.out
  have BO := BO.call hb5.out
  have hK := hK.call hb5.out
  clear hb5
  obtain ⟨c0, f0⟩ := B0.facts
  obtain ⟨c1, f1⟩ := B1.facts
  obtain ⟨c2, f2⟩ := B2.facts
  obtain ⟨c3, f3⟩ := B3.facts
  have z0 := B0.lt
  have z1 := B1.lt
  have z2 := B2.lt
  have z3 := B3.lt
  go_wp2_with fail
  clear c0 f0 z0 c1 f1 z1 c2 f2 z2 c3 f3 z3
  have B0 := B0.alloc (.cells #[.slice A5 ys.length cap5, .int .i64 bd] 26)
  have B1 := B1.alloc (.cells #[.slice A5 ys.length cap5, .int .i64 bd] 26)
  have B2 := B2.alloc (.cells #[.slice A5 ys.length cap5, .int .i64 bd] 26)
  have B3 := B3.alloc (.cells #[.slice A5 ys.length cap5, .int .i64 bd] 26)
  have BR := Blk.new w5 26 #[.slice A5 ys.length cap5, .int .i64 bd]
  have hq5 := hq5.alloc (.cells #[.slice A5 ys.length cap5, .int .i64 bd] 26)
  have hK := hK.alloc (.cells #[.slice A5 ys.length cap5, .int .i64 bd] 26)
  refine (queue_Offer_dup _ ys bd a x _ hq5 (by rw [Hyl.out]; omega) hsn Hfh.out).mono ?_
  rintro e w6 ⟨⟨v6, rfl, hq6⟩, hb6⟩
  obtain ⟨A6, cap6, rfl, _⟩ := id hq6
  have B0 := B0.call hb6.out
  have B1 := B1.call hb6.out
  have B2 := B2.call hb6.out
  have B3 := B3.call hb6.out
  have BR := BR.call hb6.out
  have hq5 := hq5.call hb6.out
  have hK := hK.call hb6.out
  clear hb6 hq6
  obtain ⟨c0, f0⟩ := B0.facts
  obtain ⟨c1, f1⟩ := B1.facts
  obtain ⟨c2, f2⟩ := B2.facts
  obtain ⟨c3, f3⟩ := B3.facts
  obtain ⟨cR, fR⟩ := BR.facts
  have z0 := B0.lt
  have z1 := B1.lt
  have z2 := B2.lt
  have z3 := B3.lt
  have zR := BR.lt
  go_wp2_with fail
  clear c0 f0 z0 c1 f1 z1 c2 f2 z2 c3 f3 z3 cR fR zR
  have B0 := B0.alloc (.cells #[.slice A6 ys.length cap6, .int .i64 bd] 26)
  have B1 := B1.alloc (.cells #[.slice A6 ys.length cap6, .int .i64 bd] 26)
  have B2 := B2.alloc (.cells #[.slice A6 ys.length cap6, .int .i64 bd] 26)
  have B3 := B3.alloc (.cells #[.slice A6 ys.length cap6, .int .i64 bd] 26)
  have BR := BR.alloc (.cells #[.slice A6 ys.length cap6, .int .i64 bd] 26)
  have hq5 := hq5.alloc (.cells #[.slice A6 ys.length cap6, .int .i64 bd] 26)
  have hK := hK.alloc (.cells #[.slice A6 ys.length cap6, .int .i64 bd] 26)
  refine (queue_Offer_any _ ys bd b x _ hq5 (by rw [Hyl.out]; omega) hsn).mono ?_
  rintro e w7 ⟨⟨A7, n7, cap7, bd7, c7, rfl, hc7⟩, hb7⟩
  obtain rfl : c7 = 1 := hc7 (Hcode.out Hcb.out)
  clear hc7
  have B0 := B0.call hb7.out
  have B1 := B1.call hb7.out
  have B2 := B2.call hb7.out
  have B3 := B3.call hb7.out
  have BR := BR.call hb7.out
  have hq5 := hq5.call hb7.out
  have hK := hK.call hb7.out
  clear hb7
  obtain ⟨c0, f0⟩ := B0.facts
  obtain ⟨c1, f1⟩ := B1.facts
  obtain ⟨c2, f2⟩ := B2.facts
  obtain ⟨c3, f3⟩ := B3.facts
  obtain ⟨cR, fR⟩ := BR.facts
  have z0 := B0.lt
  have z1 := B1.lt
  have z2 := B2.lt
  have z3 := B3.lt
  have zR := BR.lt
  go_wp2_with fail
  clear c0 f0 z0 c1 f1 z1 c2 f2 z2 c3 f3 z3 cR fR zR
  have B0 := B0.alloc (.cells #[.slice A7 n7 cap7, .int .i64 bd7] 26)
  have B1 := B1.alloc (.cells #[.slice A7 n7 cap7, .int .i64 bd7] 26)
  have B2 := B2.alloc (.cells #[.slice A7 n7 cap7, .int .i64 bd7] 26)
  have B3 := B3.alloc (.cells #[.slice A7 n7 cap7, .int .i64 bd7] 26)
  have BR := BR.alloc (.cells #[.slice A7 n7 cap7, .int .i64 bd7] 26)
  have hq5 := hq5.alloc (.cells #[.slice A7 n7 cap7, .int .i64 bd7] 26)
  have hK := hK.alloc (.cells #[.slice A7 n7 cap7, .int .i64 bd7] 26)
  refine (queue_Pick_some _ ys bd xs.length (⟨a, x, false⟩ : EntryV) _ hq5 (by rw [Hyl.out]; omega) hsn Hget.out).mono ?_
  rintro e w8 ⟨⟨v8, rfl, hq8⟩, hb8⟩
  rw [Hera.out] at hq8
  simp only [vE]
  obtain ⟨A8, cap8, rfl, hc8, hr8, _⟩ := id hq8
  have B0 := B0.call hb8.out
  have B1 := B1.call hb8.out
  have B2 := B2.call hb8.out
  have B3 := B3.call hb8.out
  have BR := BR.call hb8.out
  have hq5 := hq5.call hb8.out
  have hK := hK.call hb8.out
  clear hb8
  obtain ⟨c0, f0⟩ := B0.facts
  obtain ⟨c1, f1⟩ := B1.facts
  obtain ⟨c2, f2⟩ := B2.facts
  obtain ⟨c3, f3⟩ := B3.facts
  obtain ⟨cR, fR⟩ := BR.facts
  have z0 := B0.lt
  have z1 := B1.lt
  have z2 := B2.lt
  have z3 := B3.lt
  have zR := BR.lt
  go_wp2_with fail
  clear c0 f0 z0 c1 f1 z1 c2 f2 z2 c3 f3 z3 cR fR zR
  have B0 := (B0.alloc (.cells #[.slice A8 xs.length cap8, .int .i64 bd] 26)).alloc (.cells #[.int .u64 a.h, .int .u64 a.l, .bool a.v, .int .u64 x.p.a.h, .int .u64 x.p.a.l, .bool x.p.a.v, .int .i64 x.p.n, .int .i64 x.hop, .bool false] 48)
  have B1 := (B1.alloc (.cells #[.slice A8 xs.length cap8, .int .i64 bd] 26)).alloc (.cells #[.int .u64 a.h, .int .u64 a.l, .bool a.v, .int .u64 x.p.a.h, .int .u64 x.p.a.l, .bool x.p.a.v, .int .i64 x.p.n, .int .i64 x.hop, .bool false] 48)
  have B2 := (B2.alloc (.cells #[.slice A8 xs.length cap8, .int .i64 bd] 26)).alloc (.cells #[.int .u64 a.h, .int .u64 a.l, .bool a.v, .int .u64 x.p.a.h, .int .u64 x.p.a.l, .bool x.p.a.v, .int .i64 x.p.n, .int .i64 x.hop, .bool false] 48)
  have B3 := (B3.alloc (.cells #[.slice A8 xs.length cap8, .int .i64 bd] 26)).alloc (.cells #[.int .u64 a.h, .int .u64 a.l, .bool a.v, .int .u64 x.p.a.h, .int .u64 x.p.a.l, .bool x.p.a.v, .int .i64 x.p.n, .int .i64 x.hop, .bool false] 48)
  have BR := (BR.alloc (.cells #[.slice A8 xs.length cap8, .int .i64 bd] 26)).alloc (.cells #[.int .u64 a.h, .int .u64 a.l, .bool a.v, .int .u64 x.p.a.h, .int .u64 x.p.a.l, .bool x.p.a.v, .int .i64 x.p.n, .int .i64 x.hop, .bool false] 48)
  have BU := (Blk.new w8 26 #[.slice A8 xs.length cap8, .int .i64 bd]).alloc (.cells #[.int .u64 a.h, .int .u64 a.l, .bool a.v, .int .u64 x.p.a.h, .int .u64 x.p.a.l, .bool x.p.a.v, .int .i64 x.p.n, .int .i64 x.hop, .bool false] 48)
  have BE := Blk.new2 w8 (.cells #[.slice A8 xs.length cap8, .int .i64 bd] 26) 48 #[.int .u64 a.h, .int .u64 a.l, .bool a.v, .int .u64 x.p.a.h, .int .u64 x.p.a.l, .bool x.p.a.v, .int .i64 x.p.n, .int .i64 x.hop, .bool false]
  have hq5 := (hq5.alloc (.cells #[.slice A8 xs.length cap8, .int .i64 bd] 26)).alloc (.cells #[.int .u64 a.h, .int .u64 a.l, .bool a.v, .int .u64 x.p.a.h, .int .u64 x.p.a.l, .bool x.p.a.v, .int .i64 x.p.n, .int .i64 x.hop, .bool false] 48)
  have hq8 := (hq8.alloc (.cells #[.slice A8 xs.length cap8, .int .i64 bd] 26)).alloc (.cells #[.int .u64 a.h, .int .u64 a.l, .bool a.v, .int .u64 x.p.a.h, .int .u64 x.p.a.l, .bool x.p.a.v, .int .i64 x.p.n, .int .i64 x.hop, .bool false] 48)
  have hK := (hK.alloc (.cells #[.slice A8 xs.length cap8, .int .i64 bd] 26)).alloc (.cells #[.int .u64 a.h, .int .u64 a.l, .bool a.v, .int .u64 x.p.a.h, .int .u64 x.p.a.l, .bool x.p.a.v, .int .i64 x.p.n, .int .i64 x.hop, .bool false] 48)
  refine (prefix_Contains_is x.p b _ Hcb.out).mono ?_
  rintro e w9 ⟨rfl, hb9⟩
  have B0 := B0.call hb9.out
  have B1 := B1.call hb9.out
  have B2 := B2.call hb9.out
  have B3 := B3.call hb9.out
  have BR := BR.call hb9.out
  have BU := BU.call hb9.out
  have BE := BE.call hb9.out
  have hq5 := hq5.call hb9.out
  have hq8 := hq8.call hb9.out
  have hK := hK.call hb9.out
  clear hb9
  obtain ⟨c0, f0⟩ := B0.facts
  obtain ⟨c1, f1⟩ := B1.facts
  obtain ⟨c2, f2⟩ := B2.facts
  obtain ⟨c3, f3⟩ := B3.facts
  obtain ⟨cR, fR⟩ := BR.facts
  obtain ⟨cE, fE⟩ := BE.facts
  have z0 := B0.lt
  have z1 := B1.lt
  have z2 := B2.lt
  have z3 := B3.lt
  have zR := BR.lt
  have zE := BE.lt
  go_wp2_with fail
  clear c0 f0 z0 c1 f1 z1 c2 f2 z2 c3 f3 z3 cR fR zR cE fE zE
  have hp8 : penQ xs bd a = -1 := by simp [penQ, hs, Hf.out]
  have hp5 : penQ ys bd a = xs.length := by simp [penQ, hsn, Hfa.out]
  have Hp8 := Lib.hid hp8
  have Hp5 := Lib.hid hp5
  clear hp8 hp5
  have hS : Steady (fun W' => Blk W' w.heap.size 30 #[.slice A xs.length cap, .int .i64 bd] ∧ Blk W' (w.heap.size + 1) 34 #[.int .u64 a.h, .int .u64 a.l, .bool a.v] ∧ Blk W' w5.heap.size 26 #[.slice A5 ys.length cap5, .int .i64 bd] ∧ Blk W' w8.heap.size 26 #[.slice A8 xs.length cap8, .int .i64 bd] ∧ IsQ W' (.agg #[.slice A5 ys.length cap5, .int .i64 bd]) ys bd ∧ IsQ W' (.agg #[.slice A8 xs.length cap8, .int .i64 bd]) xs bd ∧ Kept w W') := fun w1 w2 h hb => ⟨h.1.call hb, h.2.1.call hb, h.2.2.1.call hb, h.2.2.2.1.call hb, h.2.2.2.2.1.call hb, h.2.2.2.2.2.1.call hb, h.2.2.2.2.2.2.call hb⟩
  refine wp_region_h 22 [(0, 0), (1, 0), (2, 0), (4, 0), (3, 1), (5, 0), (6, 0), (7, 0), (8, 0), (9, 0), (10, 0), (11, 0), (12, 0), (13, 0), (14, 0), (15, 0), (16, 0), (17, 0), (18, 0), (19, 0), (20, 0), (21, 0)] [] 0 (fun W' => Blk W' w.heap.size 30 #[.slice A xs.length cap, .int .i64 bd] ∧ Blk W' (w.heap.size + 1) 34 #[.int .u64 a.h, .int .u64 a.l, .bool a.v] ∧ Blk W' w5.heap.size 26 #[.slice A5 ys.length cap5, .int .i64 bd] ∧ Blk W' w8.heap.size 26 #[.slice A8 xs.length cap8, .int .i64 bd] ∧ IsQ W' (.agg #[.slice A5 ys.length cap5, .int .i64 bd]) ys bd ∧ IsQ W' (.agg #[.slice A8 xs.length cap8, .int .i64 bd]) xs bd ∧ Kept w W') (by kernel_rfl) (by kernel_rfl) hS (fun _ _ => Nat.zero_le _) ⟨B0.drew, B1.drew, BR.drew, BU.drew, hq5.drew, hq8.drew, hK.drew⟩ ?_
  simp only [List.map_cons, List.map_nil, List.getElem?_toArray, List.getElem?_cons_succ, List.getElem?_cons_zero]
  clear B0 B1 B2 B3 BR BU BE hq5 hq8 hK
  repeat (first
    | (apply h_val; rfl; (intro W hC; obtain ⟨b0, b1, b2, b3, r5, r8, hk⟩ := hC; have k0 := b0.cell; have k1 := b1.cell; have k2 := b2.cell; have k3 := b3.cell; clear b0 b1 b2 b3 r5 r8 hk; go_simp; rfl); go_simp)
    | (refine h_off rfl ?_; go_simp))
  refine h_loud (f := 29) (args := #[.agg #[.slice A8 xs.length cap8, .int .i64 bd]]) (Option Addr × Nat) (fun p => .agg #[.slice p.1 xs.length p.2, .int .i64 bd]) (fun p W => xs.length ≤ p.2 ∧ Rd W W.heap.size 9 encE p.1 xs) (fun p W' => (Blk W' w.heap.size 30 #[.slice A xs.length cap, .int .i64 bd] ∧ Blk W' (w.heap.size + 1) 34 #[.int .u64 a.h, .int .u64 a.l, .bool a.v] ∧ Blk W' w5.heap.size 26 #[.slice A5 ys.length cap5, .int .i64 bd] ∧ Blk W' w8.heap.size 26 #[.slice A8 xs.length cap8, .int .i64 bd] ∧ IsQ W' (.agg #[.slice A5 ys.length cap5, .int .i64 bd]) ys bd ∧ IsQ W' (.agg #[.slice A8 xs.length cap8, .int .i64 bd]) xs bd ∧ Kept w W') ∧ xs.length ≤ p.2 ∧ Rd W' W'.heap.size 9 encE p.1 xs) (fun p w1 w2 h hb => ⟨h.1, (h.2.below hb).more hb.size⟩) (fun p w1 w2 h hb => ⟨hS _ _ h.1 hb, h.2.1, (h.2.2.below hb).more hb.size⟩) (fun _ _ h => h.1) (fun _ _ h hF => ⟨h, hF⟩) rfl (by intro j hj; cases hj) (fun W hC => by go_simp) ?_ ?_
  · intro W hC
    obtain ⟨A9, cap9, ev, hc9, hr9, _⟩ := hC.2.2.2.2.2.1
    injection ev with ev
    injection ev with ev
    injection ev with ev _
    injection ev with ev1 _ ev2
    subst ev1 ev2
    refine (law_theirs A8 cap8 xs bd W hr9 hc9 (by omega)).mono ?_
    rintro e w1 ⟨⟨A', cap', rfl, hcc, hrr⟩, hk⟩
    exact ⟨(A', cap'), rfl, hk, hcc, hrr⟩
  intro p9
  go_simp
  repeat (first
    | (apply h_val; rfl; (intro W hC; obtain ⟨⟨b0, b1, b2, b3, r5, r8, hk⟩, _⟩ := hC; have k0 := b0.cell; have k1 := b1.cell; have k2 := b2.cell; have k3 := b3.cell; clear b0 b1 b2 b3 r5 r8 hk; go_simp; rfl); go_simp)
    | (refine h_off rfl ?_; go_simp)
    | (apply h_call (f := 28); rfl; (intro W hC; go_simp; rfl); (intro W hC; (refine (ref14_Same p9.1 A p9.2 cap xs bd W hC.2.2 hC.2.1 ((hr.below hC.1.2.2.2.2.2.2.out).more hC.1.2.2.2.2.2.2.size) hc (by omega)).mono ?_); rintro e w1 ⟨rfl, hb1⟩; exact ⟨rfl, hb1.out⟩); go_simp)
    | (apply h_call (f := 33); rfl; (intro W hC; go_simp; rfl); (intro W hC; (with_reducible refine (queue_Pending_is (.agg #[.slice A8 xs.length cap8, .int .i64 bd]) xs bd a W hC.1.2.2.2.2.2.1 (by omega) Hp8.out).mono ?_); rintro e w1 ⟨rfl, hb1⟩; exact ⟨rfl, hb1.out⟩); go_simp)
    | (apply h_call (f := 33); rfl; (intro W hC; go_simp; rfl); (intro W hC; (with_reducible refine (queue_Pending_is (.agg #[.slice A5 ys.length cap5, .int .i64 bd]) ys bd a W hC.1.2.2.2.2.1 (by rw [Hyl.out]; omega) Hp5.out).mono ?_); rintro e w1 ⟨rfl, hb1⟩; exact ⟨rfl, hb1.out⟩); go_simp))
  refine h_end fun w10 hC => ?_
  obtain ⟨⟨_, _, _, _, _, _, hK⟩, _⟩ := hC
  go_wp2_with fail
  go_ret
  exact ⟨rfl, hK⟩
set_option maxHeartbeats 1000000 in
set_option maxRecDepth 100000 in
theorem once_ok_false (A : Option Addr) (cap : Nat) (xs : List EntryV) (bd : Int) (a : AddrV) (x : RouteV) (b : AddrV) (w : World) (hr : Rd w w.heap.size 9 encE A xs) (hc : xs.length ≤ cap) (hl : xs.length ≤ 60) (hs : saneQ xs bd = true) (hf : firE xs a = -1) (hb : (xs.length : Int) ≠ bd) (hfit : fitE a x = true) (hcb : conP x.p b = false) :
    Calls Try.prog 5 #[.agg #[.slice A xs.length cap, .int .i64 bd], .agg #[.int .u64 a.h, .int .u64 a.l, .bool a.v], .agg #[.int .u64 x.p.a.h, .int .u64 x.p.a.l, .bool x.p.a.v, .int .i64 x.p.n, .int .i64 x.hop], .agg #[.int .u64 b.h, .int .u64 b.l, .bool b.v]] w fun e w' => e = .returned (.bool true) ∧ Kept w w' := by
  have hu := Try.underlying26
  have hu2 := Try.underlying34
  have hu3 := Try.underlying38
  have hu4 := Try.underlying48
  have hu5 := Try.underlying51
  have hu6 := Try.underlying30
  have hu7 := Try.underlying36
  have d0 : decide ((60 : Int) < (xs.length : Int)) = false := decide_eq_false (by omega)
  have hca : conP x.p a = true := by simp only [fitE, Bool.and_eq_true] at hfit; exact hfit.2.2
  have hsn := saneQ_snoc hs hf hb hfit
  have hfa := firE_last (e := (⟨a, x, false⟩ : EntryV)) hca hf
  have hfh : firE (xs ++ [(⟨a, x, false⟩ : EntryV)]) a ≠ -1 := firE_hit (e := (⟨a, x, false⟩ : EntryV)) hca (by simp)
  have hcode : conP x.p b = true → firE (xs ++ [(⟨a, x, false⟩ : EntryV)]) b ≠ -1 := fun h => firE_hit (e := (⟨a, x, false⟩ : EntryV)) h (by simp)
  have hget : (xs ++ [(⟨a, x, false⟩ : EntryV)])[xs.length]? = some (⟨a, x, false⟩ : EntryV) := by simp
  have hera : (xs ++ [(⟨a, x, false⟩ : EntryV)]).eraseIdx xs.length = xs := by rw [List.eraseIdx_append_of_length_le (Nat.le_refl _)]; simp
  have hyl : (xs ++ [(⟨a, x, false⟩ : EntryV)]).length = xs.length + 1 := by simp
  have Hfit := Lib.hid hfit
  have Hf := Lib.hid hf
  have Hb := Lib.hid hb
  clear hfit hf hb
  go_enter Try.func5, Try.ntmps5
  go_wp2_with fail
  obtain ⟨W, hW⟩ : ∃ W, (((w.alloc (.cells #[.slice A xs.length cap, .int .i64 bd] 30)).alloc (.cells #[.int .u64 a.h, .int .u64 a.l, .bool a.v] 34)).alloc (.cells #[.int .u64 x.p.a.h, .int .u64 x.p.a.l, .bool x.p.a.v, .int .i64 x.p.n, .int .i64 x.hop] 38)).alloc (.cells #[.int .u64 b.h, .int .u64 b.l, .bool b.v] 34) = W := ⟨_, rfl⟩
  have B0 : Blk W w.heap.size 30 #[.slice A xs.length cap, .int .i64 bd] := hW ▸ (((Blk.new _ _ _).alloc _).alloc _).alloc _
  have B1 : Blk W (w.heap.size + 1) 34 #[.int .u64 a.h, .int .u64 a.l, .bool a.v] := hW ▸ ((Blk.new2 _ _ _ _).alloc _).alloc _
  have B2 : Blk W (w.heap.size + 1 + 1) 38 #[.int .u64 x.p.a.h, .int .u64 x.p.a.l, .bool x.p.a.v, .int .i64 x.p.n, .int .i64 x.hop] := hW ▸ (Blk.new3 _ _ _ _ _).alloc _
  have B3 : Blk W (w.heap.size + 1 + 1 + 1) 34 #[.int .u64 b.h, .int .u64 b.l, .bool b.v] := hW ▸ Blk.new4 _ _ _ _ _ _
  have hK : Kept w W := hW ▸ ((((Kept.refl w).alloc _).alloc _).alloc _).alloc _
  rw [hW]
  clear hW
  refine (queue_awake _).mono ?_
  rintro e w1 ⟨rfl, hb1⟩
  have B0 := B0.call hb1.out
  have B1 := B1.call hb1.out
  have B2 := B2.call hb1.out
  have B3 := B3.call hb1.out
  have hK := hK.call hb1.out
  clear hb1
  obtain ⟨c0, f0⟩ := B0.facts
  have z0 := B0.lt
  go_wp2_with fail
  refine (law_ours A cap xs bd _ ((hr.below hK.out).more hK.size) hc (by omega)).mono ?_
  rintro e w2 ⟨⟨v2, rfl, hq2⟩, hb2⟩
  go_wp2_with fail
  refine (queue_Sane_is _ _ _ _ hq2 (by omega) hs).mono ?_
  rintro e w3 ⟨rfl, hb3⟩
  clear c0 f0 z0
  have B0 := B0.call hb2.out
  have B1 := B1.call hb2.out
  have B2 := B2.call hb2.out
  have B3 := B3.call hb2.out
  have hK := hK.call hb2.out
  have B0 := B0.call hb3.out
  have B1 := B1.call hb3.out
  have B2 := B2.call hb3.out
  have B3 := B3.call hb3.out
  have hK := hK.call hb3.out
  clear hb2 hb3 hq2
  obtain ⟨c0, f0⟩ := B0.facts
  have z0 := B0.lt
  go_wp2_with fail
  refine (law_ours A cap xs bd _ ((hr.below hK.out).more hK.size) hc (by omega)).mono ?_
  rintro e w4 ⟨⟨v4, rfl, hq4⟩, hb4⟩
  clear c0 f0 z0
  have B0 := B0.call hb4.out
  have B1 := B1.call hb4.out
  have B2 := B2.call hb4.out
  have B3 := B3.call hb4.out
  have hK := hK.call hb4.out
  clear hb4
  obtain ⟨A4, cap4, rfl, _⟩ := id hq4
  obtain ⟨c0, f0⟩ := B0.facts
  obtain ⟨c1, f1⟩ := B1.facts
  obtain ⟨c2, f2⟩ := B2.facts
  obtain ⟨c3, f3⟩ := B3.facts
  have z0 := B0.lt
  have z1 := B1.lt
  have z2 := B2.lt
  have z3 := B3.lt
  go_wp2_with fail
  clear c0 f0 z0 c1 f1 z1 c2 f2 z2 c3 f3 z3
  have B0 := B0.alloc (.cells #[.slice A4 xs.length cap4, .int .i64 bd] 26)
  have B1 := B1.alloc (.cells #[.slice A4 xs.length cap4, .int .i64 bd] 26)
  have B2 := B2.alloc (.cells #[.slice A4 xs.length cap4, .int .i64 bd] 26)
  have B3 := B3.alloc (.cells #[.slice A4 xs.length cap4, .int .i64 bd] 26)
  have BO := Blk.new w4 26 #[.slice A4 xs.length cap4, .int .i64 bd]
  have hq := hq4.alloc (.cells #[.slice A4 xs.length cap4, .int .i64 bd] 26)
  have hK := hK.alloc (.cells #[.slice A4 xs.length cap4, .int .i64 bd] 26)
  refine (queue_Offer_ok _ xs bd a x _ hq (by omega) hs Hf.out Hb.out Hfit.out).mono ?_
  rintro e w5 ⟨⟨v5, rfl, hq5⟩, hb5⟩
  obtain ⟨ys, hys⟩ : ∃ ys, xs ++ [(⟨a, x, false⟩ : EntryV)] = ys := ⟨_, rfl⟩
  rw [hys] at hsn hfa hfh hcode hget hera hyl hq5
  have Hys := Lib.hid hys
  have Hfa := Lib.hid hfa
  have Hfh := Lib.hid hfh
  have Hcode := Lib.hid hcode
  have Hget := Lib.hid hget
  have Hera := Lib.hid hera
  have Hyl := Lib.hid hyl
  have Hcb := Lib.hid hcb
  have hw : IntKind.i64.wrap ((xs.length : Int) + 1) = (ys.length : Int) := by rw [hyl]; simp [IntKind.wrap, IntKind.bits, IntKind.signed]; omega
  clear hys hfa hfh hcode hget hera hyl hcb
  obtain ⟨A5, cap5, rfl, _⟩ := id hq5
  have B0 := B0.call hb5.out
  have B1 := B1.call hb5.out
  have B2 := B2.call hb5.out
  have B3 := B3.call hb5.out
  have BO := BO.call hb5.out
  have hK := hK.call hb5.out
  clear hb5
  obtain ⟨c0, f0⟩ := B0.facts
  obtain ⟨c1, f1⟩ := B1.facts
  obtain ⟨c2, f2⟩ := B2.facts
  obtain ⟨c3, f3⟩ := B3.facts
  have z0 := B0.lt
  have z1 := B1.lt
  have z2 := B2.lt
  have z3 := B3.lt
  go_wp2_with fail
  clear c0 f0 z0 c1 f1 z1 c2 f2 z2 c3 f3 z3
  have B0 := B0.alloc (.cells #[.slice A5 ys.length cap5, .int .i64 bd] 26)
  have B1 := B1.alloc (.cells #[.slice A5 ys.length cap5, .int .i64 bd] 26)
  have B2 := B2.alloc (.cells #[.slice A5 ys.length cap5, .int .i64 bd] 26)
  have B3 := B3.alloc (.cells #[.slice A5 ys.length cap5, .int .i64 bd] 26)
  have BR := Blk.new w5 26 #[.slice A5 ys.length cap5, .int .i64 bd]
  have hq5 := hq5.alloc (.cells #[.slice A5 ys.length cap5, .int .i64 bd] 26)
  have hK := hK.alloc (.cells #[.slice A5 ys.length cap5, .int .i64 bd] 26)
  refine (queue_Offer_dup _ ys bd a x _ hq5 (by rw [Hyl.out]; omega) hsn Hfh.out).mono ?_
  rintro e w6 ⟨⟨v6, rfl, hq6⟩, hb6⟩
  obtain ⟨A6, cap6, rfl, _⟩ := id hq6
  have B0 := B0.call hb6.out
  have B1 := B1.call hb6.out
  have B2 := B2.call hb6.out
  have B3 := B3.call hb6.out
  have BR := BR.call hb6.out
  have hq5 := hq5.call hb6.out
  have hK := hK.call hb6.out
  clear hb6 hq6
  obtain ⟨c0, f0⟩ := B0.facts
  obtain ⟨c1, f1⟩ := B1.facts
  obtain ⟨c2, f2⟩ := B2.facts
  obtain ⟨c3, f3⟩ := B3.facts
  obtain ⟨cR, fR⟩ := BR.facts
  have z0 := B0.lt
  have z1 := B1.lt
  have z2 := B2.lt
  have z3 := B3.lt
  have zR := BR.lt
  go_wp2_with fail
  clear c0 f0 z0 c1 f1 z1 c2 f2 z2 c3 f3 z3 cR fR zR
  have B0 := B0.alloc (.cells #[.slice A6 ys.length cap6, .int .i64 bd] 26)
  have B1 := B1.alloc (.cells #[.slice A6 ys.length cap6, .int .i64 bd] 26)
  have B2 := B2.alloc (.cells #[.slice A6 ys.length cap6, .int .i64 bd] 26)
  have B3 := B3.alloc (.cells #[.slice A6 ys.length cap6, .int .i64 bd] 26)
  have BR := BR.alloc (.cells #[.slice A6 ys.length cap6, .int .i64 bd] 26)
  have hq5 := hq5.alloc (.cells #[.slice A6 ys.length cap6, .int .i64 bd] 26)
  have hK := hK.alloc (.cells #[.slice A6 ys.length cap6, .int .i64 bd] 26)
  refine (queue_Offer_any _ ys bd b x _ hq5 (by rw [Hyl.out]; omega) hsn).mono ?_
  rintro e w7 ⟨⟨A7, n7, cap7, bd7, c7, rfl, hc7⟩, hb7⟩
  clear hc7
  have B0 := B0.call hb7.out
  have B1 := B1.call hb7.out
  have B2 := B2.call hb7.out
  have B3 := B3.call hb7.out
  have BR := BR.call hb7.out
  have hq5 := hq5.call hb7.out
  have hK := hK.call hb7.out
  clear hb7
  obtain ⟨c0, f0⟩ := B0.facts
  obtain ⟨c1, f1⟩ := B1.facts
  obtain ⟨c2, f2⟩ := B2.facts
  obtain ⟨c3, f3⟩ := B3.facts
  obtain ⟨cR, fR⟩ := BR.facts
  have z0 := B0.lt
  have z1 := B1.lt
  have z2 := B2.lt
  have z3 := B3.lt
  have zR := BR.lt
  go_wp2_with fail
  clear c0 f0 z0 c1 f1 z1 c2 f2 z2 c3 f3 z3 cR fR zR
  have B0 := B0.alloc (.cells #[.slice A7 n7 cap7, .int .i64 bd7] 26)
  have B1 := B1.alloc (.cells #[.slice A7 n7 cap7, .int .i64 bd7] 26)
  have B2 := B2.alloc (.cells #[.slice A7 n7 cap7, .int .i64 bd7] 26)
  have B3 := B3.alloc (.cells #[.slice A7 n7 cap7, .int .i64 bd7] 26)
  have BR := BR.alloc (.cells #[.slice A7 n7 cap7, .int .i64 bd7] 26)
  have hq5 := hq5.alloc (.cells #[.slice A7 n7 cap7, .int .i64 bd7] 26)
  have hK := hK.alloc (.cells #[.slice A7 n7 cap7, .int .i64 bd7] 26)
  refine (queue_Pick_some _ ys bd xs.length (⟨a, x, false⟩ : EntryV) _ hq5 (by rw [Hyl.out]; omega) hsn Hget.out).mono ?_
  rintro e w8 ⟨⟨v8, rfl, hq8⟩, hb8⟩
  rw [Hera.out] at hq8
  simp only [vE]
  obtain ⟨A8, cap8, rfl, hc8, hr8, _⟩ := id hq8
  have B0 := B0.call hb8.out
  have B1 := B1.call hb8.out
  have B2 := B2.call hb8.out
  have B3 := B3.call hb8.out
  have BR := BR.call hb8.out
  have hq5 := hq5.call hb8.out
  have hK := hK.call hb8.out
  clear hb8
  obtain ⟨c0, f0⟩ := B0.facts
  obtain ⟨c1, f1⟩ := B1.facts
  obtain ⟨c2, f2⟩ := B2.facts
  obtain ⟨c3, f3⟩ := B3.facts
  obtain ⟨cR, fR⟩ := BR.facts
  have z0 := B0.lt
  have z1 := B1.lt
  have z2 := B2.lt
  have z3 := B3.lt
  have zR := BR.lt
  go_wp2_with fail
  clear c0 f0 z0 c1 f1 z1 c2 f2 z2 c3 f3 z3 cR fR zR
  have B0 := (B0.alloc (.cells #[.slice A8 xs.length cap8, .int .i64 bd] 26)).alloc (.cells #[.int .u64 a.h, .int .u64 a.l, .bool a.v, .int .u64 x.p.a.h, .int .u64 x.p.a.l, .bool x.p.a.v, .int .i64 x.p.n, .int .i64 x.hop, .bool false] 48)
  have B1 := (B1.alloc (.cells #[.slice A8 xs.length cap8, .int .i64 bd] 26)).alloc (.cells #[.int .u64 a.h, .int .u64 a.l, .bool a.v, .int .u64 x.p.a.h, .int .u64 x.p.a.l, .bool x.p.a.v, .int .i64 x.p.n, .int .i64 x.hop, .bool false] 48)
  have B2 := (B2.alloc (.cells #[.slice A8 xs.length cap8, .int .i64 bd] 26)).alloc (.cells #[.int .u64 a.h, .int .u64 a.l, .bool a.v, .int .u64 x.p.a.h, .int .u64 x.p.a.l, .bool x.p.a.v, .int .i64 x.p.n, .int .i64 x.hop, .bool false] 48)
  have B3 := (B3.alloc (.cells #[.slice A8 xs.length cap8, .int .i64 bd] 26)).alloc (.cells #[.int .u64 a.h, .int .u64 a.l, .bool a.v, .int .u64 x.p.a.h, .int .u64 x.p.a.l, .bool x.p.a.v, .int .i64 x.p.n, .int .i64 x.hop, .bool false] 48)
  have BR := (BR.alloc (.cells #[.slice A8 xs.length cap8, .int .i64 bd] 26)).alloc (.cells #[.int .u64 a.h, .int .u64 a.l, .bool a.v, .int .u64 x.p.a.h, .int .u64 x.p.a.l, .bool x.p.a.v, .int .i64 x.p.n, .int .i64 x.hop, .bool false] 48)
  have BU := (Blk.new w8 26 #[.slice A8 xs.length cap8, .int .i64 bd]).alloc (.cells #[.int .u64 a.h, .int .u64 a.l, .bool a.v, .int .u64 x.p.a.h, .int .u64 x.p.a.l, .bool x.p.a.v, .int .i64 x.p.n, .int .i64 x.hop, .bool false] 48)
  have BE := Blk.new2 w8 (.cells #[.slice A8 xs.length cap8, .int .i64 bd] 26) 48 #[.int .u64 a.h, .int .u64 a.l, .bool a.v, .int .u64 x.p.a.h, .int .u64 x.p.a.l, .bool x.p.a.v, .int .i64 x.p.n, .int .i64 x.hop, .bool false]
  have hq5 := (hq5.alloc (.cells #[.slice A8 xs.length cap8, .int .i64 bd] 26)).alloc (.cells #[.int .u64 a.h, .int .u64 a.l, .bool a.v, .int .u64 x.p.a.h, .int .u64 x.p.a.l, .bool x.p.a.v, .int .i64 x.p.n, .int .i64 x.hop, .bool false] 48)
  have hq8 := (hq8.alloc (.cells #[.slice A8 xs.length cap8, .int .i64 bd] 26)).alloc (.cells #[.int .u64 a.h, .int .u64 a.l, .bool a.v, .int .u64 x.p.a.h, .int .u64 x.p.a.l, .bool x.p.a.v, .int .i64 x.p.n, .int .i64 x.hop, .bool false] 48)
  have hK := (hK.alloc (.cells #[.slice A8 xs.length cap8, .int .i64 bd] 26)).alloc (.cells #[.int .u64 a.h, .int .u64 a.l, .bool a.v, .int .u64 x.p.a.h, .int .u64 x.p.a.l, .bool x.p.a.v, .int .i64 x.p.n, .int .i64 x.hop, .bool false] 48)
  refine (prefix_Contains_is x.p b _ Hcb.out).mono ?_
  rintro e w9 ⟨rfl, hb9⟩
  have B0 := B0.call hb9.out
  have B1 := B1.call hb9.out
  have B2 := B2.call hb9.out
  have B3 := B3.call hb9.out
  have BR := BR.call hb9.out
  have BU := BU.call hb9.out
  have BE := BE.call hb9.out
  have hq5 := hq5.call hb9.out
  have hq8 := hq8.call hb9.out
  have hK := hK.call hb9.out
  clear hb9
  obtain ⟨c0, f0⟩ := B0.facts
  obtain ⟨c1, f1⟩ := B1.facts
  obtain ⟨c2, f2⟩ := B2.facts
  obtain ⟨c3, f3⟩ := B3.facts
  obtain ⟨cR, fR⟩ := BR.facts
  obtain ⟨cE, fE⟩ := BE.facts
  have z0 := B0.lt
  have z1 := B1.lt
  have z2 := B2.lt
  have z3 := B3.lt
  have zR := BR.lt
  have zE := BE.lt
  go_wp2_with fail
  clear c0 f0 z0 c1 f1 z1 c2 f2 z2 c3 f3 z3 cR fR zR cE fE zE
  have hp8 : penQ xs bd a = -1 := by simp [penQ, hs, Hf.out]
  have hp5 : penQ ys bd a = xs.length := by simp [penQ, hsn, Hfa.out]
  have Hp8 := Lib.hid hp8
  have Hp5 := Lib.hid hp5
  clear hp8 hp5
  have hS : Steady (fun W' => Blk W' w.heap.size 30 #[.slice A xs.length cap, .int .i64 bd] ∧ Blk W' (w.heap.size + 1) 34 #[.int .u64 a.h, .int .u64 a.l, .bool a.v] ∧ Blk W' w5.heap.size 26 #[.slice A5 ys.length cap5, .int .i64 bd] ∧ Blk W' w8.heap.size 26 #[.slice A8 xs.length cap8, .int .i64 bd] ∧ IsQ W' (.agg #[.slice A5 ys.length cap5, .int .i64 bd]) ys bd ∧ IsQ W' (.agg #[.slice A8 xs.length cap8, .int .i64 bd]) xs bd ∧ Kept w W') := fun w1 w2 h hb => ⟨h.1.call hb, h.2.1.call hb, h.2.2.1.call hb, h.2.2.2.1.call hb, h.2.2.2.2.1.call hb, h.2.2.2.2.2.1.call hb, h.2.2.2.2.2.2.call hb⟩
  refine wp_region_h 22 [(0, 0), (1, 0), (2, 0), (4, 0), (3, 1), (5, 0), (6, 0), (7, 0), (8, 0), (9, 0), (10, 0), (11, 0), (12, 0), (13, 0), (14, 0), (15, 0), (16, 0), (17, 0), (18, 0), (19, 0), (20, 0), (21, 0)] [] 0 (fun W' => Blk W' w.heap.size 30 #[.slice A xs.length cap, .int .i64 bd] ∧ Blk W' (w.heap.size + 1) 34 #[.int .u64 a.h, .int .u64 a.l, .bool a.v] ∧ Blk W' w5.heap.size 26 #[.slice A5 ys.length cap5, .int .i64 bd] ∧ Blk W' w8.heap.size 26 #[.slice A8 xs.length cap8, .int .i64 bd] ∧ IsQ W' (.agg #[.slice A5 ys.length cap5, .int .i64 bd]) ys bd ∧ IsQ W' (.agg #[.slice A8 xs.length cap8, .int .i64 bd]) xs bd ∧ Kept w W') (by kernel_rfl) (by kernel_rfl) hS (fun _ _ => Nat.zero_le _) ⟨B0.drew, B1.drew, BR.drew, BU.drew, hq5.drew, hq8.drew, hK.drew⟩ ?_
  simp only [List.map_cons, List.map_nil, List.getElem?_toArray, List.getElem?_cons_succ, List.getElem?_cons_zero]
  clear B0 B1 B2 B3 BR BU BE hq5 hq8 hK
  repeat (first
    | (apply h_val; rfl; (intro W hC; obtain ⟨b0, b1, b2, b3, r5, r8, hk⟩ := hC; have k0 := b0.cell; have k1 := b1.cell; have k2 := b2.cell; have k3 := b3.cell; clear b0 b1 b2 b3 r5 r8 hk; go_simp; rfl); go_simp)
    | (refine h_off rfl ?_; go_simp))
  refine h_loud (f := 29) (args := #[.agg #[.slice A8 xs.length cap8, .int .i64 bd]]) (Option Addr × Nat) (fun p => .agg #[.slice p.1 xs.length p.2, .int .i64 bd]) (fun p W => xs.length ≤ p.2 ∧ Rd W W.heap.size 9 encE p.1 xs) (fun p W' => (Blk W' w.heap.size 30 #[.slice A xs.length cap, .int .i64 bd] ∧ Blk W' (w.heap.size + 1) 34 #[.int .u64 a.h, .int .u64 a.l, .bool a.v] ∧ Blk W' w5.heap.size 26 #[.slice A5 ys.length cap5, .int .i64 bd] ∧ Blk W' w8.heap.size 26 #[.slice A8 xs.length cap8, .int .i64 bd] ∧ IsQ W' (.agg #[.slice A5 ys.length cap5, .int .i64 bd]) ys bd ∧ IsQ W' (.agg #[.slice A8 xs.length cap8, .int .i64 bd]) xs bd ∧ Kept w W') ∧ xs.length ≤ p.2 ∧ Rd W' W'.heap.size 9 encE p.1 xs) (fun p w1 w2 h hb => ⟨h.1, (h.2.below hb).more hb.size⟩) (fun p w1 w2 h hb => ⟨hS _ _ h.1 hb, h.2.1, (h.2.2.below hb).more hb.size⟩) (fun _ _ h => h.1) (fun _ _ h hF => ⟨h, hF⟩) rfl (by intro j hj; cases hj) (fun W hC => by go_simp) ?_ ?_
  · intro W hC
    obtain ⟨A9, cap9, ev, hc9, hr9, _⟩ := hC.2.2.2.2.2.1
    injection ev with ev
    injection ev with ev
    injection ev with ev _
    injection ev with ev1 _ ev2
    subst ev1 ev2
    refine (law_theirs A8 cap8 xs bd W hr9 hc9 (by omega)).mono ?_
    rintro e w1 ⟨⟨A', cap', rfl, hcc, hrr⟩, hk⟩
    exact ⟨(A', cap'), rfl, hk, hcc, hrr⟩
  intro p9
  go_simp
  repeat (first
    | (apply h_val; rfl; (intro W hC; obtain ⟨⟨b0, b1, b2, b3, r5, r8, hk⟩, _⟩ := hC; have k0 := b0.cell; have k1 := b1.cell; have k2 := b2.cell; have k3 := b3.cell; clear b0 b1 b2 b3 r5 r8 hk; go_simp; rfl); go_simp)
    | (refine h_off rfl ?_; go_simp)
    | (apply h_call (f := 28); rfl; (intro W hC; go_simp; rfl); (intro W hC; (refine (ref14_Same p9.1 A p9.2 cap xs bd W hC.2.2 hC.2.1 ((hr.below hC.1.2.2.2.2.2.2.out).more hC.1.2.2.2.2.2.2.size) hc (by omega)).mono ?_); rintro e w1 ⟨rfl, hb1⟩; exact ⟨rfl, hb1.out⟩); go_simp)
    | (apply h_call (f := 33); rfl; (intro W hC; go_simp; rfl); (intro W hC; (with_reducible refine (queue_Pending_is (.agg #[.slice A8 xs.length cap8, .int .i64 bd]) xs bd a W hC.1.2.2.2.2.2.1 (by omega) Hp8.out).mono ?_); rintro e w1 ⟨rfl, hb1⟩; exact ⟨rfl, hb1.out⟩); go_simp)
    | (apply h_call (f := 33); rfl; (intro W hC; go_simp; rfl); (intro W hC; (with_reducible refine (queue_Pending_is (.agg #[.slice A5 ys.length cap5, .int .i64 bd]) ys bd a W hC.1.2.2.2.2.1 (by rw [Hyl.out]; omega) Hp5.out).mono ?_); rintro e w1 ⟨rfl, hb1⟩; exact ⟨rfl, hb1.out⟩); go_simp))
  refine h_end fun w10 hC => ?_
  obtain ⟨⟨_, _, _, _, _, _, hK⟩, _⟩ := hC
  go_wp2_with fail
  go_ret
  exact ⟨rfl, hK⟩
end Go.Proofs.Ytapiffkeclnbbaa.Q
