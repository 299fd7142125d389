import Derived.Test.YtapiffkeclnbbaaProg
import Derived.Below
import Derived.Deep.Draws
import Derived.Deep.AppendLies
import Derived.Maps.AppendAt
import Derived.OwnWalk
import Derived.Laws.MakeOwn
import Derived.Laws.OwnMore
import Derived.Deep.OwnRows
import Derived.Tactics
import Derived.Laws.Slices
import Derived.WalkKit
import Derived.KernelRfl
import Derived.RowKit3
import Derived.Deep.LoopGhost
import Derived.Deep.QuietTactic
import Derived.BigQuiet
import Derived.WideLaws
import Derived.Deep.DeepCutAuto
import Derived.Deep.CutBlock
import Derived.Deep.RegionHeld3
import Derived.Deep.RegionWith
import Derived.Deep.RegionLaw
import Derived.Laws.Rows
import Derived.ArgAppend
import Derived.OrdersHeld
import Derived.Laws.BitsLemmas
import Derived.Laws.StructEq
import Derived.RowKit
import Derived.Lib.Hide
import Derived.Lib.SliceRun
import Derived.StillTail
import Derived.Test.YtapiffkeclnbbaaB0
import Derived.Test.YtapiffkeclnbbaaB1
import Derived.Test.YtapiffkeclnbbaaB2
import Derived.Test.YtapiffkeclnbbaaB3
import Derived.Test.YtapiffkeclnbbaaB4
import Derived.Test.YtapiffkeclnbbaaB5
import Derived.Test.YtapiffkeclnbbaaB6
import Derived.Test.YtapiffkeclnbbaaB7
import Derived.Test.YtapiffkeclnbbaaB8
import Derived.Test.YtapiffkeclnbbaaA1
import Derived.Test.YtapiffkeclnbbaaA2
import Derived.Test.YtapiffkeclnbbaaA3
import Derived.Test.YtapiffkeclnbbaaA4
import Derived.Test.YtapiffkeclnbbaaA5
import Derived.Test.YtapiffkeclnbbaaA6
import Derived.Test.YtapiffkeclnbbaaQ1
import Derived.Test.YtapiffkeclnbbaaQ2
import Derived.Test.YtapiffkeclnbbaaQ3
import Derived.Test.YtapiffkeclnbbaaQ4
import Derived.Test.YtapiffkeclnbbaaQ5
import Derived.Test.YtapiffkeclnbbaaQ6
import Derived.Test.YtapiffkeclnbbaaQ7
import Derived.Test.YtapiffkeclnbbaaQ8
import Derived.Test.YtapiffkeclnbbaaQ9
import Derived.Test.YtapiffkeclnbbaaQ10
import Derived.Test.YtapiffkeclnbbaaQ11
/-! the queue's awake. -/
set_option linter.unusedVariables false
set_option linter.unusedSimpArgs false
namespace Go.Proofs.Ytapiffkeclnbbaa.Q
open Go.RowKit Go.Proofs.Ytapiffkeclnbbaa.B0 Go.Proofs.Ytapiffkeclnbbaa.A2
attribute [local irreducible] wpHq
def wkA : AddrV := ⟨720575944674246656, 0, false⟩
def wkB : AddrV := ⟨720575948969213952, 0, false⟩
def wkC : AddrV := ⟨720857415355990016, 0, false⟩
def wkX : RouteV := ⟨ofP wkA 8, 3⟩
theorem queue_New4 (w : World) : Calls Try.prog 20 #[.int .i64 4] w fun e w' => e = .returned (.agg #[.slice none 0 0, .int .i64 4]) ∧ Kept w w' := queue_New 4 w
theorem wk0 : saneQ [] 4 = true := by decide
theorem wk1 : fitE wkA wkX = true := by kernel_rfl
theorem wk2 : firE [⟨wkA, wkX, false⟩] wkB = 0 := by kernel_rfl
theorem wk3 : saneQ [⟨wkA, wkX, false⟩] 4 = true := by kernel_rfl
theorem wk4 : cntE (ofP wkC 16) [⟨wkA, wkX, false⟩] 1 = 1 := by kernel_rfl
theorem wk5 : [(⟨wkA, wkX, false⟩ : EntryV)].map (narE (ofP wkC 16)) = [⟨wkA, ⟨whoP wkA, 3⟩, true⟩] := by kernel_rfl
theorem wk6 : saneQ [⟨wkA, ⟨whoP wkA, 3⟩, true⟩] 4 = true := by kernel_rfl
theorem wk7 : firE [⟨wkA, ⟨whoP wkA, 3⟩, true⟩] wkB = -1 := by kernel_rfl
theorem wk8 : fitE wkB wkX = true := by kernel_rfl
theorem wk9 : (whoP wkA).n = 32 := by kernel_rfl

set_option maxHeartbeats 2000000 in
set_option maxRecDepth 100000 in
theorem queue_awake (w : World) : Calls Try.prog 19 #[] w fun e w' => e = .returned (.bool true) ∧ Kept w w' := by
  have hu := Try.underlying26
  have hu2 := Try.underlying34
  have hu3 := Try.underlying38
  have hu4 := Try.underlying36
  have hu5 := Try.underlying48
  go_enter Try.func19, Try.ntmps19
  go_wp2_with fail
  refine (addr_From_10_0_0_1 _ _ (Blk.new _ _ _)).mono ?_
  rintro e w1 ⟨rfl, hb1⟩
  have hK := ((Kept.refl w).alloc _).call hb1.out
  clear hb1
  go_wp2_with fail
  have BA := (Blk.new w1 34 #[.int .u64 720575944674246656, .int .u64 0, .bool false]).alloc (.cells #[.int .u8 10, .int .u8 0, .int .u8 0, .int .u8 2] 5)
  have hK := (hK.alloc (.cells #[.int .u64 720575944674246656, .int .u64 0, .bool false] 34)).alloc (.cells #[.int .u8 10, .int .u8 0, .int .u8 0, .int .u8 2] 5)
  refine (addr_From_10_0_0_2 _ _ (Blk.new2 _ _ _ _)).mono ?_
  rintro e w2 ⟨rfl, hb2⟩
  have BA := BA.call hb2.out
  have hK := hK.call hb2.out
  clear hb2
  go_wp2_with fail
  have BA := (BA.alloc (.cells #[.int .u64 720575948969213952, .int .u64 0, .bool false] 34)).alloc (.cells #[.int .u8 10, .int .u8 1, .int .u8 0, .int .u8 0] 5)
  have BB := (Blk.new w2 34 #[.int .u64 720575948969213952, .int .u64 0, .bool false]).alloc (.cells #[.int .u8 10, .int .u8 1, .int .u8 0, .int .u8 0] 5)
  have hK := (hK.alloc (.cells #[.int .u64 720575948969213952, .int .u64 0, .bool false] 34)).alloc (.cells #[.int .u8 10, .int .u8 1, .int .u8 0, .int .u8 0] 5)
  refine (addr_From_10_1_0_0 _ _ (Blk.new2 _ _ _ _)).mono ?_
  rintro e w3 ⟨rfl, hb3⟩
  have BA := BA.call hb3.out
  have BB := BB.call hb3.out
  have hK := hK.call hb3.out
  clear hb3
  obtain ⟨cA, fA⟩ := BA.facts
  obtain ⟨cB, fB⟩ := BB.facts
  have zA := BA.lt
  have zB := BB.lt
  go_wp2_with fail
  clear cA fA cB fB zA zB
  have BA := BA.alloc (.cells #[.int .u64 720857415355990016, .int .u64 0, .bool false] 34)
  have BB := BB.alloc (.cells #[.int .u64 720857415355990016, .int .u64 0, .bool false] 34)
  have BC := Blk.new w3 34 #[.int .u64 720857415355990016, .int .u64 0, .bool false]
  have hK := hK.alloc (.cells #[.int .u64 720857415355990016, .int .u64 0, .bool false] 34)
  refine (prefix_Of wkA 8 _).mono ?_
  rintro e w4 ⟨rfl, hb4⟩
  have BA := BA.call hb4.out
  have BB := BB.call hb4.out
  have BC := BC.call hb4.out
  have hK := hK.call hb4.out
  clear hb4
  go_wp2_with fail
  have hS : Steady (fun W' => Blk W' w1.heap.size 34 #[.int .u64 720575944674246656, .int .u64 0, .bool false] ∧ Blk W' w2.heap.size 34 #[.int .u64 720575948969213952, .int .u64 0, .bool false] ∧ Blk W' w3.heap.size 34 #[.int .u64 720857415355990016, .int .u64 0, .bool false] ∧ Blk W' w4.heap.size 38 #[.int .u64 (ofP wkA 8).a.h, .int .u64 (ofP wkA 8).a.l, .bool (ofP wkA 8).a.v, .int .i64 (ofP wkA 8).n, .int .i64 3] ∧ Kept w W') := fun w1 w2 h hb => ⟨h.1.call hb, h.2.1.call hb, h.2.2.1.call hb, h.2.2.2.1.call hb, h.2.2.2.2.call hb⟩
  have BA := BA.alloc (.cells #[.int .u64 (ofP wkA 8).a.h, .int .u64 (ofP wkA 8).a.l, .bool (ofP wkA 8).a.v, .int .i64 (ofP wkA 8).n, .int .i64 3] 38)
  have BB := BB.alloc (.cells #[.int .u64 (ofP wkA 8).a.h, .int .u64 (ofP wkA 8).a.l, .bool (ofP wkA 8).a.v, .int .i64 (ofP wkA 8).n, .int .i64 3] 38)
  have BC := BC.alloc (.cells #[.int .u64 (ofP wkA 8).a.h, .int .u64 (ofP wkA 8).a.l, .bool (ofP wkA 8).a.v, .int .i64 (ofP wkA 8).n, .int .i64 3] 38)
  have BX := Blk.new w4 38 #[.int .u64 (ofP wkA 8).a.h, .int .u64 (ofP wkA 8).a.l, .bool (ofP wkA 8).a.v, .int .i64 (ofP wkA 8).n, .int .i64 3]
  have hK := hK.alloc (.cells #[.int .u64 (ofP wkA 8).a.h, .int .u64 (ofP wkA 8).a.l, .bool (ofP wkA 8).a.v, .int .i64 (ofP wkA 8).n, .int .i64 3] 38)
  refine wp_region_h 9 [(0, 0), (1, 0), (2, 0), (3, 1), (4, 0), (5, 0), (6, 0), (7, 2), (8, 3)] [7] w.heap.size (fun W' => Blk W' w1.heap.size 34 #[.int .u64 720575944674246656, .int .u64 0, .bool false] ∧ Blk W' w2.heap.size 34 #[.int .u64 720575948969213952, .int .u64 0, .bool false] ∧ Blk W' w3.heap.size 34 #[.int .u64 720857415355990016, .int .u64 0, .bool false] ∧ Blk W' w4.heap.size 38 #[.int .u64 (ofP wkA 8).a.h, .int .u64 (ofP wkA 8).a.l, .bool (ofP wkA 8).a.v, .int .i64 (ofP wkA 8).n, .int .i64 3] ∧ Kept w W') (by kernel_rfl) (by kernel_rfl) hS (fun W h => h.2.2.2.2.size) ⟨BA.drew, BB.drew, BC.drew, BX.drew, hK.drew⟩ ?_
  simp only [List.map_cons, List.map_nil, List.getElem?_toArray, List.getElem?_cons_succ, List.getElem?_cons_zero]
  clear BA BB BC BX hK
  repeat (first
    | (apply h_val; rfl; (intro W hC; obtain ⟨b0, b1, b2, b3, hk⟩ := hC; have k0 := b0.cell; have k1 := b1.cell; have k2 := b2.cell; have k3 := b3.cell; clear b0 b1 b2 b3 hk; go_simp; rfl); go_simp)
    | (apply h_call (f := 20); rfl; (intro W hC; go_simp; rfl); (intro W hC; (with_reducible refine (queue_New4 _).mono ?_); rintro e w1 ⟨rfl, hb1⟩; exact ⟨rfl, hb1.out⟩); go_simp))
  refine h_loud (f := 22) (args := #[.agg #[.slice none 0 0, .int .i64 4], .agg #[.int .u64 720575944674246656, .int .u64 0, .bool false], .agg #[.int .u64 (ofP wkA 8).a.h, .int .u64 (ofP wkA 8).a.l, .bool (ofP wkA 8).a.v, .int .i64 (ofP wkA 8).n, .int .i64 3]]) (Option Addr × Nat) (fun p => .tuple #[.agg #[.slice p.1 1 p.2, .int .i64 4], .int .i64 3]) (fun p W => IsQ W (.agg #[.slice p.1 1 p.2, .int .i64 4]) [⟨wkA, wkX, false⟩] 4) (fun p W' => Blk W' w1.heap.size 34 #[.int .u64 720575944674246656, .int .u64 0, .bool false] ∧ Blk W' w2.heap.size 34 #[.int .u64 720575948969213952, .int .u64 0, .bool false] ∧ Blk W' w3.heap.size 34 #[.int .u64 720857415355990016, .int .u64 0, .bool false] ∧ Blk W' w4.heap.size 38 #[.int .u64 (ofP wkA 8).a.h, .int .u64 (ofP wkA 8).a.l, .bool (ofP wkA 8).a.v, .int .i64 (ofP wkA 8).n, .int .i64 3] ∧ Kept w W') (fun p w1 w2 h hb => h.call hb) (fun _ => hS) (fun _ _ h => h) (fun _ _ h _ => h) rfl ?_ (fun W hC => by go_simp) ?_ ?_
  · intro j hj
    rw [List.mem_singleton.1 hj]
    exact ⟨_, rfl, rfl, (fun g => .pointer (some ⟨g, 0, none⟩)), #[.slice none 0 0, .int .i64 0], 26, by intro w; go_simp⟩
  · intro W hC
    refine (queue_Offer_ok _ [] 4 wkA wkX W (IsQ.nil _ _) (by decide) wk0 (by decide) (by decide) wk1).mono ?_
    rintro e w1 ⟨⟨v', rfl, hq⟩, hk⟩
    obtain ⟨A, cap, rfl, hc⟩ := id hq
    exact ⟨(A, cap), rfl, hk, hq⟩
  intro p5
  go_simp
  repeat (first
    | (apply h_val; rfl; (intro W hC; obtain ⟨b0, b1, b2, b3, hk⟩ := hC; have k0 := b0.cell; have k1 := b1.cell; have k2 := b2.cell; have k3 := b3.cell; clear b0 b1 b2 b3 hk; go_simp; rfl); go_simp))
  refine h_alloc (m := fun g => .pointer (some ⟨g, 0, none⟩)) (z := #[.slice none 0 0, .int .i64 0]) (t := 26) rfl ?_ (by intro w; go_simp) ?_
  · intro j hj
    rw [List.mem_singleton.1 hj]
    exact ⟨_, rfl, rfl, (fun g => .pointer (some ⟨g, 0, none⟩)), #[.slice none 0 0, .int .i64 0], 26, by intro w; go_simp⟩
  intro g5 hg5
  go_simp
  refine h_store (fun W' => (Blk W' w1.heap.size 34 #[.int .u64 720575944674246656, .int .u64 0, .bool false] ∧ Blk W' w2.heap.size 34 #[.int .u64 720575948969213952, .int .u64 0, .bool false] ∧ Blk W' w3.heap.size 34 #[.int .u64 720857415355990016, .int .u64 0, .bool false] ∧ Blk W' w4.heap.size 38 #[.int .u64 (ofP wkA 8).a.h, .int .u64 (ofP wkA 8).a.l, .bool (ofP wkA 8).a.v, .int .i64 (ofP wkA 8).n, .int .i64 3] ∧ Kept w W') ∧ IsQ W' (.agg #[.slice p5.1 1 p5.2, .int .i64 4]) [⟨wkA, wkX, false⟩] 4 ∧ Blk W' g5 26 #[.slice p5.1 1 p5.2, .int .i64 4]) (fun W' => (W'.setCell ⟨g5, 0, none⟩ (.slice p5.1 1 p5.2)).setCell ⟨g5, 1, none⟩ (.int .i64 4)) rfl ?_ hS ?_ ?_ ?_ ?_
  · intro W hC
    obtain ⟨k1, f1⟩ := hC.2.facts
    clear hC
    go_simp
  · exact fun w1 w2 h hb => ⟨hS _ _ h.1 hb, h.2.1.call hb, h.2.2.call hb⟩
  · exact fun w h => h.1
  · rintro W ⟨⟨⟨a1, a2, a3, a4, a5⟩, hq⟩, bg⟩
    have t0 := bg.tb
    have n1 := (a1.tb.ne t0 (by decide)); have n2 := (a2.tb.ne t0 (by decide)); have n3 := (a3.tb.ne t0 (by decide)); have n4 := (a4.tb.ne t0 (by decide))
    exact ⟨⟨(a1.off n1 _).off n1 _, (a2.off n2 _).off n2 _, (a3.off n3 _).off n3 _, (a4.off n4 _).off n4 _, (a5.set (by omega)).set (by omega)⟩, (hq.set t0 (by decide) _).set (t0.set _) (by decide) _, ((bg.put 0 (.slice p5.1 1 p5.2) rfl).put 1 (.int .i64 4) rfl).cast (by simp)⟩
  go_simp
  refine h_end fun w5 hC => ?_
  obtain ⟨⟨BA, BB, BC, BX, hK⟩, hq, BQ⟩ := hC
  obtain ⟨cB, fB⟩ := BB.facts
  obtain ⟨cX, fX⟩ := BX.facts
  obtain ⟨cQ, fQ⟩ := BQ.facts
  clear hS
  go_wp2_with fail
  clear cB fB cX fX cQ fQ
  refine (queue_Offer_dup _ [⟨wkA, wkX, false⟩] 4 wkB wkX _ hq (by decide) wk3 (by rw [wk2]; decide)).mono ?_
  rintro e w6 ⟨⟨v6, rfl, hq6⟩, hk6⟩
  obtain ⟨A6, cap6, rfl, _⟩ := id hq6
  have BA := (BA.call hk6.out).alloc (.cells #[.slice A6 1 cap6, .int .i64 4] 26)
  have BB := (BB.call hk6.out).alloc (.cells #[.slice A6 1 cap6, .int .i64 4] 26)
  have BC := (BC.call hk6.out).alloc (.cells #[.slice A6 1 cap6, .int .i64 4] 26)
  have BX := (BX.call hk6.out).alloc (.cells #[.slice A6 1 cap6, .int .i64 4] 26)
  have BQ := (BQ.call hk6.out).alloc (.cells #[.slice A6 1 cap6, .int .i64 4] 26)
  have hq := (hq.call hk6.out).alloc (.cells #[.slice A6 1 cap6, .int .i64 4] 26)
  have hK := (hK.call hk6.out).alloc (.cells #[.slice A6 1 cap6, .int .i64 4] 26)
  clear hk6 hq6
  go_wp2_with fail
  have hS : Steady (fun W' => Blk W' w1.heap.size 34 #[.int .u64 720575944674246656, .int .u64 0, .bool false] ∧ Blk W' w2.heap.size 34 #[.int .u64 720575948969213952, .int .u64 0, .bool false] ∧ Blk W' w3.heap.size 34 #[.int .u64 720857415355990016, .int .u64 0, .bool false] ∧ Blk W' w4.heap.size 38 #[.int .u64 (ofP wkA 8).a.h, .int .u64 (ofP wkA 8).a.l, .bool (ofP wkA 8).a.v, .int .i64 (ofP wkA 8).n, .int .i64 3] ∧ Blk W' g5 26 #[.slice p5.1 1 p5.2, .int .i64 4] ∧ IsQ W' (.agg #[.slice p5.1 1 p5.2, .int .i64 4]) [⟨wkA, wkX, false⟩] 4 ∧ Kept w W') := fun w1 w2 h hb => ⟨h.1.call hb, h.2.1.call hb, h.2.2.1.call hb, h.2.2.2.1.call hb, h.2.2.2.2.1.call hb, h.2.2.2.2.2.1.call hb, h.2.2.2.2.2.2.call hb⟩
  obtain ⟨W6, hW6⟩ : ∃ W, w6.alloc (.cells #[.slice A6 1 cap6, .int .i64 4] 26) = W := ⟨_, rfl⟩
  rw [hW6] at BA BB BC BX BQ hq hK ⊢
  clear hW6
  refine wp_region_h 9 [(0, 0), (1, 0), (2, 0), (3, 1), (4, 0), (5, 0), (6, 0), (7, 2), (8, 3)] [7] g5.succ (fun W' => Blk W' w1.heap.size 34 #[.int .u64 720575944674246656, .int .u64 0, .bool false] ∧ Blk W' w2.heap.size 34 #[.int .u64 720575948969213952, .int .u64 0, .bool false] ∧ Blk W' w3.heap.size 34 #[.int .u64 720857415355990016, .int .u64 0, .bool false] ∧ Blk W' w4.heap.size 38 #[.int .u64 (ofP wkA 8).a.h, .int .u64 (ofP wkA 8).a.l, .bool (ofP wkA 8).a.v, .int .i64 (ofP wkA 8).n, .int .i64 3] ∧ Blk W' g5 26 #[.slice p5.1 1 p5.2, .int .i64 4] ∧ IsQ W' (.agg #[.slice p5.1 1 p5.2, .int .i64 4]) [⟨wkA, wkX, false⟩] 4 ∧ Kept w W') (by kernel_rfl) (by kernel_rfl) hS (fun W h => h.2.2.2.2.1.lt) ⟨BA.drew, BB.drew, BC.drew, BX.drew, BQ.drew, hq.drew, hK.drew⟩ ?_
  simp only [List.map_cons, List.map_nil, List.getElem?_toArray, List.getElem?_cons_succ, List.getElem?_cons_zero]
  clear BA BB BC BX BQ hq hK
  repeat (first
    | (apply h_val; rfl; (intro W hC; obtain ⟨b0, b1, b2, b3, b4, bq, hk⟩ := hC; have k0 := b0.cell; have k1 := b1.cell; have k2 := b2.cell; have k3 := b3.cell; have k4 := b4.cell; clear b0 b1 b2 b3 b4 bq hk; go_simp; rfl); go_simp)
    | (apply h_call (f := 75); rfl; (intro W hC; go_simp; rfl); (intro W hC; (refine (prefix_Of wkC 16 _).mono ?_); rintro e w1 ⟨rfl, hb1⟩; exact ⟨rfl, hb1.out⟩); go_simp))
  refine h_loud (f := 24) (args := #[.agg #[.slice p5.1 1 p5.2, .int .i64 4], .agg #[.int .u64 (ofP wkC 16).a.h, .int .u64 (ofP wkC 16).a.l, .bool (ofP wkC 16).a.v, .int .i64 (ofP wkC 16).n]]) (Option Addr × Nat) (fun p => .tuple #[.agg #[.slice p.1 1 p.2, .int .i64 4], .int .i64 1]) (fun p W => IsQ W (.agg #[.slice p.1 1 p.2, .int .i64 4]) [⟨wkA, ⟨whoP wkA, 3⟩, true⟩] 4) (fun p W' => Blk W' w1.heap.size 34 #[.int .u64 720575944674246656, .int .u64 0, .bool false] ∧ Blk W' w2.heap.size 34 #[.int .u64 720575948969213952, .int .u64 0, .bool false] ∧ Blk W' w3.heap.size 34 #[.int .u64 720857415355990016, .int .u64 0, .bool false] ∧ Blk W' w4.heap.size 38 #[.int .u64 (ofP wkA 8).a.h, .int .u64 (ofP wkA 8).a.l, .bool (ofP wkA 8).a.v, .int .i64 (ofP wkA 8).n, .int .i64 3] ∧ Blk W' g5 26 #[.slice p5.1 1 p5.2, .int .i64 4] ∧ IsQ W' (.agg #[.slice p5.1 1 p5.2, .int .i64 4]) [⟨wkA, wkX, false⟩] 4 ∧ Kept w W') (fun p w1 w2 h hb => h.call hb) (fun _ => hS) (fun _ _ h => h) (fun _ _ h _ => h) rfl ?_ (fun W hC => by go_simp) ?_ ?_
  · intro j hj
    rw [List.mem_singleton.1 hj]
    exact ⟨_, rfl, rfl, (fun g => .pointer (some ⟨g, 0, none⟩)), #[.slice none 0 0, .int .i64 0], 26, by intro w; go_simp⟩
  · intro W hC
    refine (queue_Narrow_sane _ [⟨wkA, wkX, false⟩] 4 (ofP wkC 16) W hC.2.2.2.2.2.1 (by decide) wk3).mono ?_
    rintro e w1 ⟨⟨v', rfl, hq⟩, hk⟩
    rw [wk5] at hq
    obtain ⟨A, cap, rfl, hc⟩ := id hq
    refine ⟨(A, cap), ?_, hk, hq⟩
    show Ending.returned (.tuple #[_, .int .i64 (cntE (ofP wkC 16) [⟨wkA, wkX, false⟩] 1)]) = _
    rw [wk4]
    rfl
  rintro ⟨p7, n7⟩
  simp only
  go_simp
  repeat (first
    | (apply h_val; rfl; (intro W hC; obtain ⟨b0, b1, b2, b3, b4, bq, hk⟩ := hC; have k0 := b0.cell; have k1 := b1.cell; have k2 := b2.cell; have k3 := b3.cell; have k4 := b4.cell; clear b0 b1 b2 b3 b4 bq hk; go_simp; rfl); go_simp))
  refine h_alloc (m := fun g => .pointer (some ⟨g, 0, none⟩)) (z := #[.slice none 0 0, .int .i64 0]) (t := 26) rfl ?_ (by intro w; go_simp) ?_
  · intro j hj
    rw [List.mem_singleton.1 hj]
    exact ⟨_, rfl, rfl, (fun g => .pointer (some ⟨g, 0, none⟩)), #[.slice none 0 0, .int .i64 0], 26, by intro w; go_simp⟩
  intro g7 hg7
  go_simp
  have hg57 : g5 ≠ g7 := by omega
  refine h_store (fun W' => (Blk W' w1.heap.size 34 #[.int .u64 720575944674246656, .int .u64 0, .bool false] ∧ Blk W' w2.heap.size 34 #[.int .u64 720575948969213952, .int .u64 0, .bool false] ∧ Blk W' w3.heap.size 34 #[.int .u64 720857415355990016, .int .u64 0, .bool false] ∧ Blk W' w4.heap.size 38 #[.int .u64 (ofP wkA 8).a.h, .int .u64 (ofP wkA 8).a.l, .bool (ofP wkA 8).a.v, .int .i64 (ofP wkA 8).n, .int .i64 3] ∧ Blk W' g5 26 #[.slice p5.1 1 p5.2, .int .i64 4] ∧ IsQ W' (.agg #[.slice p5.1 1 p5.2, .int .i64 4]) [⟨wkA, wkX, false⟩] 4 ∧ Kept w W') ∧ IsQ W' (.agg #[.slice p7 1 n7, .int .i64 4]) [⟨wkA, ⟨whoP wkA, 3⟩, true⟩] 4 ∧ Blk W' g7 26 #[.slice p7 1 n7, .int .i64 4]) (fun W' => (W'.setCell ⟨g7, 0, none⟩ (.slice p7 1 n7)).setCell ⟨g7, 1, none⟩ (.int .i64 4)) rfl ?_ hS ?_ ?_ ?_ ?_
  · intro W hC
    obtain ⟨k1, f1⟩ := hC.2.facts
    clear hC
    go_simp
  · exact fun w1 w2 h hb => ⟨hS _ _ h.1 hb, h.2.1.call hb, h.2.2.call hb⟩
  · exact fun w h => h.1
  · rintro W ⟨⟨⟨a1, a2, a3, a4, a6, aq, a5⟩, hq⟩, bg⟩
    have t0 := bg.tb
    have n1 := (a1.tb.ne t0 (by decide)); have n2 := (a2.tb.ne t0 (by decide)); have n3 := (a3.tb.ne t0 (by decide)); have n4 := (a4.tb.ne t0 (by decide))
    exact ⟨⟨(a1.off n1 _).off n1 _, (a2.off n2 _).off n2 _, (a3.off n3 _).off n3 _, (a4.off n4 _).off n4 _, (a6.off hg57 _).off hg57 _, (aq.set t0 (by decide) _).set (t0.set _) (by decide) _, (a5.set (by omega)).set (by omega)⟩, (hq.set t0 (by decide) _).set (t0.set _) (by decide) _, ((bg.put 0 (.slice p7 1 n7) rfl).put 1 (.int .i64 4) rfl).cast (by simp)⟩
  go_simp
  refine h_end fun w7 hC => ?_
  obtain ⟨⟨BA, BB, BC, BX, BQ, hq, hK⟩, hq7, BN⟩ := hC
  obtain ⟨A7, cap7, ev, hcap7, hr7, _⟩ := id hq7
  injection ev with ev
  injection ev with ev
  injection ev with ev evt
  injection ev with ev1 evl ev2
  clear evl evt
  obtain ⟨b7, off7, e7, hb7, hc7⟩ := hr7.get (i := 0) (by decide)
  rw [e7] at ev1
  subst ev1 ev2
  have e8 : w7.cell? ⟨b7, off7 + 8, none⟩ = some (.bool true) := by simpa using hc7 8 (.bool true) rfl
  have e6 : w7.cell? ⟨b7, off7 + 6, none⟩ = some (.int .i64 32) := by
    have := hc7 6 (.int .i64 (whoP wkA).n) rfl
    rw [wk9] at this
    simpa using this
  have E8 := Lib.hid e8
  have E6 := Lib.hid e6
  clear e7 hcap7 hg7 hg5 hg57 hc7 hr7 e8 e6
  obtain ⟨cB, fB⟩ := BB.facts
  obtain ⟨cX, fX⟩ := BX.facts
  obtain ⟨cN, fN⟩ := BN.facts
  clear hS
  go_wp2_with fail
  clear cB fB cX fX cN fN
  refine (queue_Offer_ok _ [⟨wkA, ⟨whoP wkA, 3⟩, true⟩] 4 wkB wkX _ hq7 (by decide) wk6 wk7 (by decide) wk8).mono ?_
  rintro e w8 ⟨⟨v8, rfl, hq8⟩, hk8⟩
  obtain ⟨A8, cap8, rfl, _⟩ := id hq8
  have e8 := (hk8.out.cell (p := ⟨b7, off7 + 8, none⟩) hb7).trans E8.out
  have e6 := (hk8.out.cell (p := ⟨b7, off7 + 6, none⟩) hb7).trans E6.out
  have zb7 : b7 < w8.heap.size := Nat.lt_of_lt_of_le hb7 hk8.size
  have BN := BN.call hk8.out
  have hK := hK.call hk8.out
  clear hk8 hq8 BA BB BC BX BQ hq hq7
  have zN := BN.lt
  obtain ⟨cN, fN⟩ := BN.facts
  go_wp2_with fail
  go_ret
  exact ⟨rfl, hK.alloc _⟩
end Go.Proofs.Ytapiffkeclnbbaa.Q
