import Derived.Test.YtapiffkeclnbbaaProg
import Derived.Below
import Derived.Deep.Draws
import Derived.Deep.AppendLies
import Derived.Maps.AppendAt
import Derived.OwnWalk
import Derived.Laws.MakeOwn
import Derived.Laws.OwnMore
import Derived.Deep.OwnRows
import Derived.Tactics
import Derived.Laws.Slices
import Derived.WalkKit
import Derived.KernelRfl
import Derived.RowKit3
import Derived.Deep.LoopGhost
import Derived.Deep.QuietTactic
import Derived.BigQuiet
import Derived.WideLaws
import Derived.Deep.DeepCutAuto
import Derived.Deep.CutBlock
import Derived.Deep.RegionHeld3
import Derived.Deep.RegionWith
import Derived.Deep.RegionLaw
import Derived.Laws.Rows
import Derived.ArgAppend
import Derived.OrdersHeld
import Derived.Laws.BitsLemmas
import Derived.Laws.StructEq
import Derived.RowKit
import Derived.Lib.Hide
import Derived.Lib.SliceRun
import Derived.StillTail
import Derived.Lib.ItoaNum
import Derived.Test.YtapiffkeclnbbaaB0
import Derived.Test.YtapiffkeclnbbaaB1
import Derived.Test.YtapiffkeclnbbaaB2
import Derived.Test.YtapiffkeclnbbaaB3
import Derived.Test.YtapiffkeclnbbaaB4
import Derived.Test.YtapiffkeclnbbaaB5
import Derived.Test.YtapiffkeclnbbaaB6
import Derived.Test.YtapiffkeclnbbaaB7
import Derived.Test.YtapiffkeclnbbaaB8
import Derived.Test.YtapiffkeclnbbaaA1
import Derived.Test.YtapiffkeclnbbaaA2
import Derived.Test.YtapiffkeclnbbaaA3
import Derived.Test.YtapiffkeclnbbaaA4
import Derived.Test.YtapiffkeclnbbaaA5
import Derived.Test.YtapiffkeclnbbaaA6
import Derived.Test.YtapiffkeclnbbaaA7
import Derived.Test.YtapiffkeclnbbaaA8
import Derived.Test.YtapiffkeclnbbaaD1
import Derived.Test.YtapiffkeclnbbaaD2
import Derived.Test.YtapiffkeclnbbaaD3
import Derived.Test.YtapiffkeclnbbaaQ1
import Derived.Test.YtapiffkeclnbbaaQ2
import Derived.Test.YtapiffkeclnbbaaQ3
import Derived.Test.YtapiffkeclnbbaaQ4
import Derived.Test.YtapiffkeclnbbaaQ6
import Derived.Test.YtapiffkeclnbbaaQ11
import Derived.Test.YtapiffkeclnbbaaQ12
import Derived.Test.YtapiffkeclnbbaaQ13
import Derived.Test.YtapiffkeclnbbaaQ14
import Derived.Test.YtapiffkeclnbbaaQ15
import Derived.Test.YtapiffkeclnbbaaQ16
import Derived.Test.YtapiffkeclnbbaaQ17
import Derived.Test.YtapiffkeclnbbaaN1
/-! kedgelaw14.QueueNarrows, walked. -/
set_option linter.unusedVariables false
set_option linter.unusedSimpArgs false
namespace Go.Proofs.Ytapiffkeclnbbaa.Q
open Go.RowKit Go.Proofs.Ytapiffkeclnbbaa.B0 Go.Proofs.Ytapiffkeclnbbaa.A2 Go.Proofs.Ytapiffkeclnbbaa.D Go.Proofs.Ytapiffkeclnbbaa.A8
attribute [local irreducible] wpHq
attribute [local go_sem high] eqA34 eqA36 eqA38
set_option maxHeartbeats 1000000 in
set_option maxRecDepth 100000 in
theorem narrows_long (A : Option Addr) (cap : Nat) (xs : List EntryV) (bd : Int) (p : PrefV) (w : World) (hr : Rd w w.heap.size 9 encE A xs) (hc : xs.length ≤ cap) (hl : 60 < xs.length) :
    Calls Try.prog 7 #[.agg #[.slice A xs.length cap, .int .i64 bd], .agg #[.int .u64 p.a.h, .int .u64 p.a.l, .bool p.a.v, .int .i64 p.n]] w fun e w' => e = .returned (.bool true) ∧ Kept w w' := by
  have hu := Try.underlying26
  have hu2 := Try.underlying34
  have hu3 := Try.underlying38
  have hu4 := Try.underlying48
  have hu5 := Try.underlying51
  have hu6 := Try.underlying30
  have hu7 := Try.underlying36
  have d0 : decide ((60 : Int) < (xs.length : Int)) = true := decide_eq_true (by omega)
  go_enter Try.func7, Try.ntmps7
  go_wp2_with fail
  obtain ⟨W, hW⟩ : ∃ W, (w.alloc (.cells #[.slice A xs.length cap, .int .i64 bd] 30)).alloc (.cells #[.int .u64 p.a.h, .int .u64 p.a.l, .bool p.a.v, .int .i64 p.n] 36) = W := ⟨_, rfl⟩
  have B0 : Blk W w.heap.size 30 #[.slice A xs.length cap, .int .i64 bd] := hW ▸ (Blk.new _ _ _).alloc _
  have B1 : Blk W (w.heap.size + 1) 36 #[.int .u64 p.a.h, .int .u64 p.a.l, .bool p.a.v, .int .i64 p.n] := hW ▸ Blk.new2 _ _ _ _
  have hK : Kept w W := hW ▸ ((Kept.refl w).alloc _).alloc _
  rw [hW]
  clear hW
  refine (queue_awake _).mono ?_
  rintro e w1 ⟨rfl, hb1⟩
  have B0 := B0.call hb1.out
  have B1 := B1.call hb1.out
  have hK := hK.call hb1.out
  clear hb1
  obtain ⟨c0, f0⟩ := B0.facts
  have z0 := B0.lt
  go_wp2_with fail
  go_ret
  exact ⟨rfl, hK⟩
set_option maxHeartbeats 1000000 in
set_option maxRecDepth 100000 in
theorem narrows_insane (A : Option Addr) (cap : Nat) (xs : List EntryV) (bd : Int) (p : PrefV) (w : World) (hr : Rd w w.heap.size 9 encE A xs) (hc : xs.length ≤ cap) (hl : xs.length ≤ 60) (hs : saneQ xs bd = false) :
    Calls Try.prog 7 #[.agg #[.slice A xs.length cap, .int .i64 bd], .agg #[.int .u64 p.a.h, .int .u64 p.a.l, .bool p.a.v, .int .i64 p.n]] w fun e w' => e = .returned (.bool true) ∧ Kept w w' := by
  have hu := Try.underlying26
  have hu2 := Try.underlying34
  have hu3 := Try.underlying38
  have hu4 := Try.underlying48
  have hu5 := Try.underlying51
  have hu6 := Try.underlying30
  have hu7 := Try.underlying36
  have d0 : decide ((60 : Int) < (xs.length : Int)) = false := decide_eq_false (by omega)
  go_enter Try.func7, Try.ntmps7
  go_wp2_with fail
  obtain ⟨W, hW⟩ : ∃ W, (w.alloc (.cells #[.slice A xs.length cap, .int .i64 bd] 30)).alloc (.cells #[.int .u64 p.a.h, .int .u64 p.a.l, .bool p.a.v, .int .i64 p.n] 36) = W := ⟨_, rfl⟩
  have B0 : Blk W w.heap.size 30 #[.slice A xs.length cap, .int .i64 bd] := hW ▸ (Blk.new _ _ _).alloc _
  have B1 : Blk W (w.heap.size + 1) 36 #[.int .u64 p.a.h, .int .u64 p.a.l, .bool p.a.v, .int .i64 p.n] := hW ▸ Blk.new2 _ _ _ _
  have hK : Kept w W := hW ▸ ((Kept.refl w).alloc _).alloc _
  rw [hW]
  clear hW
  refine (queue_awake _).mono ?_
  rintro e w1 ⟨rfl, hb1⟩
  have B0 := B0.call hb1.out
  have B1 := B1.call hb1.out
  have hK := hK.call hb1.out
  clear hb1
  obtain ⟨c0, f0⟩ := B0.facts
  have z0 := B0.lt
  go_wp2_with fail
  refine (law_ours A cap xs bd _ ((hr.below hK.out).more hK.size) hc (by omega)).mono ?_
  rintro e w2 ⟨⟨v2, rfl, hq2⟩, hb2⟩
  go_wp2_with fail
  refine (queue_Sane_is _ _ _ _ hq2 (by omega) hs).mono ?_
  rintro e w3 ⟨rfl, hb3⟩
  clear c0 f0 z0
  have B0 := B0.call hb2.out
  have B1 := B1.call hb2.out
  have hK := hK.call hb2.out
  have B0 := B0.call hb3.out
  have B1 := B1.call hb3.out
  have hK := hK.call hb3.out
  clear hb2 hb3 hq2
  obtain ⟨c0, f0⟩ := B0.facts
  have z0 := B0.lt
  go_wp2_with fail
  go_ret
  exact ⟨rfl, hK⟩
set_option maxHeartbeats 8000000 in
set_option maxRecDepth 100000 in
theorem narrows_sane (A : Option Addr) (cap : Nat) (xs : List EntryV) (bd : Int) (p : PrefV) (w : World) (hr : Rd w w.heap.size 9 encE A xs) (hc : xs.length ≤ cap) (hl : xs.length ≤ 60) (hs : saneQ xs bd = true) (hp : okW p.a) (ho : ∀ e ∈ xs, okWE e) :
    Calls Try.prog 7 #[.agg #[.slice A xs.length cap, .int .i64 bd], .agg #[.int .u64 p.a.h, .int .u64 p.a.l, .bool p.a.v, .int .i64 p.n]] w fun e w' => e = .returned (.bool true) ∧ Kept w w' := by
  have hu := Try.underlying26
  have hu2 := Try.underlying34
  have hu3 := Try.underlying38
  have hu4 := Try.underlying48
  have hu5 := Try.underlying51
  have hu6 := Try.underlying30
  have hu7 := Try.underlying36
  have d0 : decide ((60 : Int) < (xs.length : Int)) = false := decide_eq_false (by omega)
  obtain ⟨ys, hys⟩ : ∃ ys, xs.map (narE p) = ys := ⟨_, rfl⟩
  have hsy := sane_nar (p := p) ho hs
  have hyl : ys.length = xs.length := by rw [← hys]; simp
  have hyy : ys.map (narE p) = ys := by rw [← hys, List.map_map]; apply List.map_congr_left; intro e _; exact narE_twice p e
  have hcl : cntE p ys ys.length ≤ cntE p xs xs.length := by
    unfold cntE
    rw [List.take_length, List.take_length, ← hys]
    exact cnt_less p xs
  rw [hys] at hsy
  obtain ⟨n1, hn1⟩ : ∃ n1, cntE p xs xs.length = n1 := ⟨_, rfl⟩
  obtain ⟨n2, hn2⟩ : ∃ n2, cntE p ys ys.length = n2 := ⟨_, rfl⟩
  have hnb := cntE_le p xs xs.length
  rw [hn1] at hcl hnb
  rw [hn2] at hcl
  have Hys := Lib.hid hys
  have Hyl := Lib.hid hyl
  have Hyy := Lib.hid hyy
  have Hn1 := Lib.hid hn1
  have Hn2 := Lib.hid hn2
  have Hsy := Lib.hid hsy
  have Hs := Lib.hid hs
  clear hys hyl hyy hn1 hn2 hsy
  go_enter Try.func7, Try.ntmps7
  go_wp2_with fail
  obtain ⟨W, hW⟩ : ∃ W, (w.alloc (.cells #[.slice A xs.length cap, .int .i64 bd] 30)).alloc (.cells #[.int .u64 p.a.h, .int .u64 p.a.l, .bool p.a.v, .int .i64 p.n] 36) = W := ⟨_, rfl⟩
  have B0 : Blk W w.heap.size 30 #[.slice A xs.length cap, .int .i64 bd] := hW ▸ (Blk.new _ _ _).alloc _
  have B1 : Blk W (w.heap.size + 1) 36 #[.int .u64 p.a.h, .int .u64 p.a.l, .bool p.a.v, .int .i64 p.n] := hW ▸ Blk.new2 _ _ _ _
  have hK : Kept w W := hW ▸ ((Kept.refl w).alloc _).alloc _
  rw [hW]
  clear hW
  refine (queue_awake _).mono ?_
  rintro e w1 ⟨rfl, hb1⟩
  have B0 := B0.call hb1.out
  have B1 := B1.call hb1.out
  have hK := hK.call hb1.out
  clear hb1
  obtain ⟨c0, f0⟩ := B0.facts
  have z0 := B0.lt
  go_wp2_with fail
  refine (law_ours A cap xs bd _ ((hr.below hK.out).more hK.size) hc (by omega)).mono ?_
  rintro e w2 ⟨⟨v2, rfl, hq2⟩, hb2⟩
  go_wp2_with fail
  refine (queue_Sane_is _ _ _ _ hq2 (by omega) hs).mono ?_
  rintro e w3 ⟨rfl, hb3⟩
  clear c0 f0 z0
  have B0 := B0.call hb2.out
  have B1 := B1.call hb2.out
  have hK := hK.call hb2.out
  have B0 := B0.call hb3.out
  have B1 := B1.call hb3.out
  have hK := hK.call hb3.out
  clear hb2 hb3 hq2
  obtain ⟨c0, f0⟩ := B0.facts
  have z0 := B0.lt
  go_wp2_with fail
  clear c0 f0 z0
  have hS : Steady (fun W' => Blk W' w.heap.size 30 #[.slice A xs.length cap, .int .i64 bd] ∧ Blk W' (w.heap.size + 1) 36 #[.int .u64 p.a.h, .int .u64 p.a.l, .bool p.a.v, .int .i64 p.n] ∧ Kept w W') := fun w1 w2 h hb => ⟨h.1.call hb, h.2.1.call hb, h.2.2.call hb⟩
  have hS2 : ∀ (v : Value) (zs : List EntryV), Steady (fun W => IsQ W v zs bd) := fun v zs w1 w2 h hb => h.call hb
  refine wp_region_h 9 [(0, 0), (2, 0), (1, 1), (3, 1), (4, 0), (5, 0), (6, 0), (7, 2), (8, 3)] [7] (w.heap.size + 1 + 1) (fun W' => Blk W' w.heap.size 30 #[.slice A xs.length cap, .int .i64 bd] ∧ Blk W' (w.heap.size + 1) 36 #[.int .u64 p.a.h, .int .u64 p.a.l, .bool p.a.v, .int .i64 p.n] ∧ Kept w W') (by kernel_rfl) (by kernel_rfl) hS (fun _ h => h.2.1.lt) ⟨B0.drew, B1.drew, hK.drew⟩ ?_
  simp only [List.map_cons, List.map_nil, List.getElem?_toArray, List.getElem?_cons_succ, List.getElem?_cons_zero]
  clear B0 B1 hK
  repeat (first
    | (apply h_val; rfl; (intro W hC; have k0 := hC.1.cell; have k1 := hC.2.1.cell; clear hC; go_simp; rfl); go_simp)
    | (refine h_off rfl ?_; go_simp))
  refine h_loud (f := 31) (args := #[.agg #[.slice A xs.length cap, .int .i64 bd]]) (Option Addr × Nat) (fun p => .agg #[.slice p.1 xs.length p.2, .int .i64 bd]) (fun q W => IsQ W (.agg #[.slice q.1 xs.length q.2, .int .i64 bd]) xs bd) (fun q W' => Blk W' w.heap.size 30 #[.slice A xs.length cap, .int .i64 bd] ∧ Blk W' (w.heap.size + 1) 36 #[.int .u64 p.a.h, .int .u64 p.a.l, .bool p.a.v, .int .i64 p.n] ∧ Kept w W') (fun q => hS2 _ _) (fun q => hS) (fun _ _ h => h) (fun _ _ h hF => h) rfl ?_ (fun W hC => by go_simp) ?_ ?_
  · intro j hj
    rw [List.mem_singleton.1 hj]
    exact ⟨_, rfl, rfl, (fun g => .pointer (some ⟨g, 0, none⟩)), #[.slice none 0 0, .int .i64 0], 26, by intro w; go_simp⟩
  · intro W hC
    refine (law_ours A cap xs bd W ((hr.below hC.2.2.out).more hC.2.2.size) hc (by omega)).mono ?_
    rintro e w1 ⟨⟨v, rfl, hq⟩, hk⟩
    obtain ⟨A', cap', rfl, _⟩ := id hq
    exact ⟨(A', cap'), rfl, hk.out, hq⟩
  intro p4
  go_simp
  refine h_loud (f := 24) (args := #[.agg #[.slice p4.1 xs.length p4.2, .int .i64 bd], .agg #[.int .u64 p.a.h, .int .u64 p.a.l, .bool p.a.v, .int .i64 p.n]]) (Option Addr × Nat) (fun p => .tuple #[.agg #[.slice p.1 xs.length p.2, .int .i64 bd], .int .i64 n1]) (fun q W => IsQ W (.agg #[.slice q.1 xs.length q.2, .int .i64 bd]) ys bd) (fun q W' => Blk W' w.heap.size 30 #[.slice A xs.length cap, .int .i64 bd] ∧ Blk W' (w.heap.size + 1) 36 #[.int .u64 p.a.h, .int .u64 p.a.l, .bool p.a.v, .int .i64 p.n] ∧ Kept w W') (fun q => hS2 _ _) (fun q => hS) (fun _ _ h => h) (fun _ _ h hF => h.1) rfl ?_ (fun W hC => by go_simp) ?_ ?_
  · intro j hj
    rw [List.mem_singleton.1 hj]
    exact ⟨_, rfl, rfl, (fun g => .pointer (some ⟨g, 0, none⟩)), #[.slice none 0 0, .int .i64 0], 26, by intro w; go_simp⟩
  · intro W hC
    refine (queue_Narrow_sane _ xs bd p W hC.2 (by omega) Hs.out).mono ?_
    rintro e w1 ⟨⟨v, rfl, hq⟩, hk⟩
    rw [Hys.out] at hq
    obtain ⟨A', cap', rfl, _⟩ := id hq
    exact ⟨(A', cap'), by rw [Hn1.out, Hyl.out], hk.out, by rw [Hyl.out] at hq; exact hq⟩
  intro p5
  go_simp
  repeat (first
    | (apply h_val; rfl; (intro W hC; clear hC; go_simp; rfl); go_simp)
    | (refine h_off rfl ?_; go_simp))
  refine h_alloc (m := fun g => .pointer (some ⟨g, 0, none⟩)) (z := #[.slice none 0 0, .int .i64 0]) (t := 26) rfl ?_ (by intro w; go_simp) ?_
  · intro j hj
    rw [List.mem_singleton.1 hj]
    exact ⟨_, rfl, rfl, (fun g => .pointer (some ⟨g, 0, none⟩)), #[.slice none 0 0, .int .i64 0], 26, by intro w; go_simp⟩
  intro g6 hg6
  go_simp
  refine h_store (fun W' => (Blk W' w.heap.size 30 #[.slice A xs.length cap, .int .i64 bd] ∧ Blk W' (w.heap.size + 1) 36 #[.int .u64 p.a.h, .int .u64 p.a.l, .bool p.a.v, .int .i64 p.n] ∧ Kept w W') ∧ IsQ W' (.agg #[.slice p5.1 xs.length p5.2, .int .i64 bd]) ys bd ∧ Blk W' g6 26 #[.slice p5.1 xs.length p5.2, .int .i64 bd]) (fun W' => (W'.setCell ⟨g6, 0, none⟩ (.slice p5.1 xs.length p5.2)).setCell ⟨g6, 1, none⟩ (.int .i64 bd)) rfl ?_ hS ?_ ?_ ?_ ?_
  · intro W hC
    obtain ⟨k1, f1⟩ := hC.2.facts
    clear hC
    go_simp
  · exact fun w1 w2 h hb => ⟨hS _ _ h.1 hb, h.2.1.call hb, h.2.2.call hb⟩
  · exact fun w h => h.1
  · rintro W ⟨⟨⟨⟨a1, a2, a5⟩, _⟩, hq⟩, bg⟩
    have t0 := bg.tb
    have n1 := (a1.tb.ne t0 (by decide)); have n2 := (a2.tb.ne t0 (by decide))
    exact ⟨⟨(a1.off n1 _).off n1 _, (a2.off n2 _).off n2 _, (a5.set (by omega)).set (by omega)⟩, (hq.set t0 (by decide) _).set (t0.set _) (by decide) _, ((bg.put 0 (.slice p5.1 xs.length p5.2) rfl).put 1 (.int .i64 bd) rfl).cast (by simp)⟩
  go_simp
  refine h_end fun w5 hC => ?_
  obtain ⟨⟨B0, B1, hK⟩, hq5, B6⟩ := hC
  clear hS
  obtain ⟨A5, cap5⟩ := p5
  simp only at B6 hq5 ⊢
  obtain ⟨c0, f0⟩ := B0.facts
  obtain ⟨c1, f1⟩ := B1.facts
  obtain ⟨c6, f6⟩ := B6.facts
  have z0 := B0.lt
  have z1 := B1.lt
  have z6 := B6.lt
  go_wp2_with fail
  refine (queue_Narrow_sane _ ys bd p _ hq5 (by rw [Hyl.out]; omega) Hsy.out).mono ?_
  rintro e w6 ⟨⟨v6, rfl, hq6⟩, hb6⟩
  rw [Hn2.out]
  rw [Hyy.out] at hq6
  obtain ⟨A6, cap6, rfl, hc6, hr6, _⟩ := id hq6
  rw [Hyl.out] at hc6 hq6 ⊢
  have B0 := B0.call hb6.out
  have B1 := B1.call hb6.out
  have B6 := B6.call hb6.out
  have hq5 := hq5.call hb6.out
  have hK := hK.call hb6.out
  clear hb6 c0 f0 z0 c1 f1 z1 c6 f6 z6
  obtain ⟨c0, f0⟩ := B0.facts
  obtain ⟨c1, f1⟩ := B1.facts
  obtain ⟨c6, f6⟩ := B6.facts
  have z0 := B0.lt
  have z1 := B1.lt
  have z6 := B6.lt
  go_wp2_with fail
  have a6 := (.cells #[.slice A6 xs.length cap6, .int .i64 bd] 26 : Obj)
  have B0 := B0.alloc (.cells #[.slice A6 xs.length cap6, .int .i64 bd] 26)
  have B1 := B1.alloc (.cells #[.slice A6 xs.length cap6, .int .i64 bd] 26)
  have B6 := B6.alloc (.cells #[.slice A6 xs.length cap6, .int .i64 bd] 26)
  have B8 := Blk.new w6 26 #[.slice A6 xs.length cap6, .int .i64 bd]
  have hq5 := hq5.alloc (.cells #[.slice A6 xs.length cap6, .int .i64 bd] 26)
  have hq6 := hq6.alloc (.cells #[.slice A6 xs.length cap6, .int .i64 bd] 26)
  have hK := hK.alloc (.cells #[.slice A6 xs.length cap6, .int .i64 bd] 26)
  refine (queue_Sane_is _ ys bd _ hq5 (by rw [Hyl.out]; omega) Hsy.out).mono ?_
  rintro e w7 ⟨rfl, hb7⟩
  have B0 := B0.call hb7.out
  have B1 := B1.call hb7.out
  have B6 := B6.call hb7.out
  have B8 := B8.call hb7.out
  have hq5 := hq5.call hb7.out
  have hq6 := hq6.call hb7.out
  have hK := hK.call hb7.out
  obtain ⟨g8, hg8⟩ : ∃ g8, w6.heap.size = g8 := ⟨_, rfl⟩
  rw [hg8] at B8 ⊢
  clear hb7 c0 f0 z0 c1 f1 z1 c6 f6 z6 a6 hg8 hr6
  have d1 : decide ((n1 : Int) < (n2 : Int)) = false := decide_eq_false (by omega)
  have d2 : decide (n1 < n2) = false := decide_eq_false (by omega)
  go_wp2_with fail
  go_loopw [10, 11] (fun ct i wr => ∃ k : Nat, k ≤ xs.length ∧ i = .int .i64 k ∧ ct = .int .i64 (cntE p xs k) ∧ Blk wr w.heap.size 30 #[.slice A xs.length cap, .int .i64 bd] ∧ Blk wr (w.heap.size + 1) 36 #[.int .u64 p.a.h, .int .u64 p.a.l, .bool p.a.v, .int .i64 p.n] ∧ Blk wr g6 26 #[.slice A5 xs.length cap5, .int .i64 bd] ∧ Blk wr g8 26 #[.slice A6 xs.length cap6, .int .i64 bd] ∧ IsQ wr (.agg #[.slice A5 xs.length cap5, .int .i64 bd]) ys bd ∧ IsQ wr (.agg #[.slice A6 xs.length cap6, .int .i64 bd]) ys bd ∧ Kept w wr)
    (fun ct i _ => xs.length - (intOf i).toNat)
  case atStart => exact ⟨0, Nat.zero_le _, rfl, rfl, B0, B1, B6, B8, hq5, hq6, hK⟩
  case round =>
    obtain ⟨k, hk, rfl, rfl, B0, B1, B6, B8, hq5, hq6, hK⟩ := hrel
    by_cases hlt : k < xs.length
    · obtain ⟨b, off, rfl, hb, hcs⟩ := hr.get hlt
      obtain ⟨A5', cap5', ev, hc5, hr5, hty5⟩ := id hq5
      injection ev with ev
      injection ev with ev
      injection ev with ev _
      injection ev with ev1 ev3 ev2
      clear ev3
      subst ev1 ev2
      obtain ⟨b', off', rfl, hb', hds⟩ := hr5.get (i := k) (by rw [Hyl.out]; exact hlt)
      obtain ⟨e, he⟩ : ∃ e, xs[k] = e := ⟨_, rfl⟩
      have hx : xs[k]? = some e := by rw [List.getElem?_eq_getElem hlt, he]
      have hyk : ys[k]'(by rw [Hyl.out]; exact hlt) = narE p e := by
        have h1 : ys[k]? = some (narE p e) := by rw [← Hys.out, List.getElem?_map, hx]; rfl
        rw [List.getElem?_eq_getElem (by rw [Hyl.out]; exact hlt)] at h1
        exact Option.some.inj h1
      rw [he] at hcs
      rw [hyk] at hds
      have hoe : okWE e := ho _ (List.mem_of_getElem? hx)
      have hfe : fitE e.a e.x = true := by
        obtain ⟨_, _, _, h3⟩ := saneQ_bd Hs.out
        rw [allE_iff] at h3
        have := h3 k hlt e hx
        simp only [okE, Bool.and_eq_true] at this
        exact this.1
      have hcv := nar_cov p hoe hfe
      have hf : narE p e = ⟨e.a, ⟨(narE p e).x.p, e.x.hop⟩, (narE p e).stale⟩ := by
        rw [← narE_a p e, ← narE_hop p e]
      have hcn := cntE_succ p xs k e hx
      have hci := cnt_is hp hoe hfe
      have hap : apaP e.x.p p = true → narE p e = e := nar_apart hp hoe
      have hcl2 : sanP p = true → (narE p e).stale = false → apaP (narE p e).x.p p = true := nar_clean hp hoe hfe
      obtain ⟨f, hff⟩ : ∃ f, narE p e = f := ⟨_, rfl⟩
      rw [hff] at hds hcv hf hap hcl2
      clear hff hx hyk he
      obtain ⟨⟨ah, al, av⟩, ⟨⟨⟨ph, pl, pv⟩, pn⟩, eh⟩, es⟩ := e
      obtain ⟨fa, ⟨⟨⟨qh, ql, qv⟩, qn⟩, fh⟩, fs⟩ := f
      simp only [EntryV.mk.injEq, RouteV.mk.injEq, true_and, and_true] at hf
      obtain ⟨hf1, hf2⟩ := hf
      subst hf1 hf2
      have hk0 : (0 : Int) ≤ (k : Int) := by omega
      have hcw : IntKind.i64.wrap ((cntE p xs k : Int) + 1) = (cntE p xs k : Int) + 1 := by
        have := cntE_le p xs k
        simp [IntKind.wrap, IntKind.bits, IntKind.signed]; omega
      have hkl : (k : Int) < (xs.length : Int) := by omega
      have hkw : IntKind.i64.wrap ((k : Int) + 1) = (k : Int) + 1 := by simp [IntKind.wrap, IntKind.bits, IntKind.signed]; omega
      have cc := fun j u h => (hK.out.cell (p := ⟨b, off + k * 9 + j, none⟩) hb).trans (hcs j u h)
      have e0 := cc 0 _ rfl
      have d0 := hds 0 _ rfl
      have e1 := cc 1 _ rfl
      have d1 := hds 1 _ rfl
      have e2 := cc 2 _ rfl
      have d2 := hds 2 _ rfl
      have e3 := cc 3 _ rfl
      have d3 := hds 3 _ rfl
      have e4 := cc 4 _ rfl
      have d4 := hds 4 _ rfl
      have e5 := cc 5 _ rfl
      have d5 := hds 5 _ rfl
      have e6 := cc 6 _ rfl
      have d6 := hds 6 _ rfl
      have e7 := cc 7 _ rfl
      have d7 := hds 7 _ rfl
      have e8 := cc 8 _ rfl
      have d8 := hds 8 _ rfl
      rw [Nat.add_zero] at e0 d0
      have hbw : b < wr.heap.size := Nat.lt_of_lt_of_le hb hK.size
      clear cc hcs hds
      obtain ⟨c0, f0⟩ := B0.facts
      have z0 := B0.lt
      obtain ⟨c1, f1⟩ := B1.facts
      have z1 := B1.lt
      obtain ⟨c6, f6⟩ := B6.facts
      have z6 := B6.lt
      go_wp2_with fail
      clear c0 f0 z0 c1 f1 z1 c6 f6 z6 d0 e0 d1 e1 d2 e2 d3 e3 d4 e4 d5 e5 d6 e6 d7 e7 d8 e8
      obtain ⟨gC, hgC⟩ : ∃ g, wr.heap.size = g := ⟨_, rfl⟩
      obtain ⟨W, hW⟩ : ∃ W, (wr.alloc (.cells #[.int .u64 ah, .int .u64 al, .bool av, .int .u64 ph, .int .u64 pl, .bool pv, .int .i64 pn, .int .i64 fh, .bool es] 51)).alloc (.cells #[.int .u64 ah, .int .u64 al, .bool av, .int .u64 qh, .int .u64 ql, .bool qv, .int .i64 qn, .int .i64 fh, .bool fs] 48) = W := ⟨_, rfl⟩
      have B0 := hW ▸ (B0.alloc (.cells #[.int .u64 ah, .int .u64 al, .bool av, .int .u64 ph, .int .u64 pl, .bool pv, .int .i64 pn, .int .i64 fh, .bool es] 51)).alloc (.cells #[.int .u64 ah, .int .u64 al, .bool av, .int .u64 qh, .int .u64 ql, .bool qv, .int .i64 qn, .int .i64 fh, .bool fs] 48)
      have B1 := hW ▸ (B1.alloc (.cells #[.int .u64 ah, .int .u64 al, .bool av, .int .u64 ph, .int .u64 pl, .bool pv, .int .i64 pn, .int .i64 fh, .bool es] 51)).alloc (.cells #[.int .u64 ah, .int .u64 al, .bool av, .int .u64 qh, .int .u64 ql, .bool qv, .int .i64 qn, .int .i64 fh, .bool fs] 48)
      have B6 := hW ▸ (B6.alloc (.cells #[.int .u64 ah, .int .u64 al, .bool av, .int .u64 ph, .int .u64 pl, .bool pv, .int .i64 pn, .int .i64 fh, .bool es] 51)).alloc (.cells #[.int .u64 ah, .int .u64 al, .bool av, .int .u64 qh, .int .u64 ql, .bool qv, .int .i64 qn, .int .i64 fh, .bool fs] 48)
      have B8 := hW ▸ (B8.alloc (.cells #[.int .u64 ah, .int .u64 al, .bool av, .int .u64 ph, .int .u64 pl, .bool pv, .int .i64 pn, .int .i64 fh, .bool es] 51)).alloc (.cells #[.int .u64 ah, .int .u64 al, .bool av, .int .u64 qh, .int .u64 ql, .bool qv, .int .i64 qn, .int .i64 fh, .bool fs] 48)
      have BC : Blk W wr.heap.size 51 #[.int .u64 ah, .int .u64 al, .bool av, .int .u64 ph, .int .u64 pl, .bool pv, .int .i64 pn, .int .i64 fh, .bool es] := hW ▸ (Blk.new wr 51 #[.int .u64 ah, .int .u64 al, .bool av, .int .u64 ph, .int .u64 pl, .bool pv, .int .i64 pn, .int .i64 fh, .bool es]).alloc (.cells #[.int .u64 ah, .int .u64 al, .bool av, .int .u64 qh, .int .u64 ql, .bool qv, .int .i64 qn, .int .i64 fh, .bool fs] 48)
      have BD : Blk W (wr.heap.size + 1) 48 #[.int .u64 ah, .int .u64 al, .bool av, .int .u64 qh, .int .u64 ql, .bool qv, .int .i64 qn, .int .i64 fh, .bool fs] := hW ▸ Blk.new2 _ _ _ _
      have hq5 := hW ▸ (hq5.alloc (.cells #[.int .u64 ah, .int .u64 al, .bool av, .int .u64 ph, .int .u64 pl, .bool pv, .int .i64 pn, .int .i64 fh, .bool es] 51)).alloc (.cells #[.int .u64 ah, .int .u64 al, .bool av, .int .u64 qh, .int .u64 ql, .bool qv, .int .i64 qn, .int .i64 fh, .bool fs] 48)
      have hq6 := hW ▸ (hq6.alloc (.cells #[.int .u64 ah, .int .u64 al, .bool av, .int .u64 ph, .int .u64 pl, .bool pv, .int .i64 pn, .int .i64 fh, .bool es] 51)).alloc (.cells #[.int .u64 ah, .int .u64 al, .bool av, .int .u64 qh, .int .u64 ql, .bool qv, .int .i64 qn, .int .i64 fh, .bool fs] 48)
      have hK := hW ▸ (hK.alloc (.cells #[.int .u64 ah, .int .u64 al, .bool av, .int .u64 ph, .int .u64 pl, .bool pv, .int .i64 pn, .int .i64 fh, .bool es] 51)).alloc (.cells #[.int .u64 ah, .int .u64 al, .bool av, .int .u64 qh, .int .u64 ql, .bool qv, .int .i64 qn, .int .i64 fh, .bool fs] 48)
      rw [hW]
      clear hW
      rw [hgC] at BC BD ⊢
      clear hgC
      have hps : apaP ⟨⟨ph, pl, pv⟩, pn⟩ p = true → sanP p = true := fun h => (apart_sane h).2
      have hqs : apaP ⟨⟨qh, ql, qv⟩, qn⟩ p = true → sanP p = true := fun h => (apart_sane h).2
      try simp only at hci
      try simp only at hap
      try simp only at hcl2
      cases hs2 : sanP p
      · have hpe : apaP ⟨⟨ph, pl, pv⟩, pn⟩ p = false := by
          cases h : apaP ⟨⟨ph, pl, pv⟩, pn⟩ p
          · rfl
          · rw [hps h] at hs2; cases hs2
        have hpf : apaP ⟨⟨qh, ql, qv⟩, qn⟩ p = false := by
          cases h : apaP ⟨⟨qh, ql, qv⟩, qn⟩ p
          · rfl
          · rw [hqs h] at hs2; cases hs2
        cases fs
        · skip
          rw [hs2, hpe] at hci
          clear hap hps hqs
          clear hcl2
          refine (prefix_Covers_is ⟨⟨ph, pl, pv⟩, pn⟩ ⟨⟨qh, ql, qv⟩, qn⟩ _ hcv).mono ?_
          rintro e w1 ⟨rfl, hb1⟩
          have B0 := B0.call hb1.out
          have B1 := B1.call hb1.out
          have B6 := B6.call hb1.out
          have B8 := B8.call hb1.out
          have BC := BC.call hb1.out
          have BD := BD.call hb1.out
          have hq5 := hq5.call hb1.out
          have hq6 := hq6.call hb1.out
          have hK := hK.call hb1.out
          clear hb1
          obtain ⟨c0, f0⟩ := B0.facts
          have z0 := B0.lt
          obtain ⟨c1, f1⟩ := B1.facts
          have z1 := B1.lt
          obtain ⟨c6, f6⟩ := B6.facts
          have z6 := B6.lt
          obtain ⟨cC, fC⟩ := BC.facts
          have zC := BC.lt
          obtain ⟨cD, fD⟩ := BD.facts
          have zD := BD.lt
          go_wp2_with fail
          refine (prefix_Apart_is ⟨⟨qh, ql, qv⟩, qn⟩ p _ hpf).mono ?_
          rintro e w1 ⟨rfl, hb1⟩
          clear c0 f0 z0 c1 f1 z1 c6 f6 z6 cC fC zC cD fD zD
          have B0 := B0.call hb1.out
          have B1 := B1.call hb1.out
          have B6 := B6.call hb1.out
          have B8 := B8.call hb1.out
          have BC := BC.call hb1.out
          have BD := BD.call hb1.out
          have hq5 := hq5.call hb1.out
          have hq6 := hq6.call hb1.out
          have hK := hK.call hb1.out
          clear hb1
          obtain ⟨c0, f0⟩ := B0.facts
          have z0 := B0.lt
          obtain ⟨c1, f1⟩ := B1.facts
          have z1 := B1.lt
          obtain ⟨c6, f6⟩ := B6.facts
          have z6 := B6.lt
          obtain ⟨cC, fC⟩ := BC.facts
          have zC := BC.lt
          obtain ⟨cD, fD⟩ := BD.facts
          have zD := BD.lt
          go_wp2_with fail
          refine (prefix_Sane_is p _ hs2).mono ?_
          rintro e w1 ⟨rfl, hb1⟩
          clear c0 f0 z0 c1 f1 z1 c6 f6 z6 cC fC zC cD fD zD
          have B0 := B0.call hb1.out
          have B1 := B1.call hb1.out
          have B6 := B6.call hb1.out
          have B8 := B8.call hb1.out
          have BC := BC.call hb1.out
          have BD := BD.call hb1.out
          have hq5 := hq5.call hb1.out
          have hq6 := hq6.call hb1.out
          have hK := hK.call hb1.out
          clear hb1
          obtain ⟨c0, f0⟩ := B0.facts
          have z0 := B0.lt
          obtain ⟨c1, f1⟩ := B1.facts
          have z1 := B1.lt
          obtain ⟨c6, f6⟩ := B6.facts
          have z6 := B6.lt
          obtain ⟨cC, fC⟩ := BC.facts
          have zC := BC.lt
          obtain ⟨cD, fD⟩ := BD.facts
          have zD := BD.lt
          go_wp2_with fail
          refine (prefix_Apart_is ⟨⟨ph, pl, pv⟩, pn⟩ p _ hpe).mono ?_
          rintro e w1 ⟨rfl, hb1⟩
          clear c0 f0 z0 c1 f1 z1 c6 f6 z6 cC fC zC cD fD zD
          have B0 := B0.call hb1.out
          have B1 := B1.call hb1.out
          have B6 := B6.call hb1.out
          have B8 := B8.call hb1.out
          have BC := BC.call hb1.out
          have BD := BD.call hb1.out
          have hq5 := hq5.call hb1.out
          have hq6 := hq6.call hb1.out
          have hK := hK.call hb1.out
          clear hb1
          obtain ⟨c0, f0⟩ := B0.facts
          have z0 := B0.lt
          obtain ⟨c1, f1⟩ := B1.facts
          have z1 := B1.lt
          obtain ⟨c6, f6⟩ := B6.facts
          have z6 := B6.lt
          obtain ⟨cC, fC⟩ := BC.facts
          have zC := BC.lt
          obtain ⟨cD, fD⟩ := BD.facts
          have zD := BD.lt
          go_wp2_with fail
          refine (prefix_Sane_is p _ hs2).mono ?_
          rintro e w1 ⟨rfl, hb1⟩
          clear c0 f0 z0 c1 f1 z1 c6 f6 z6 cC fC zC cD fD zD
          have B0 := B0.call hb1.out
          have B1 := B1.call hb1.out
          have B6 := B6.call hb1.out
          have B8 := B8.call hb1.out
          have BC := BC.call hb1.out
          have BD := BD.call hb1.out
          have hq5 := hq5.call hb1.out
          have hq6 := hq6.call hb1.out
          have hK := hK.call hb1.out
          clear hb1
          obtain ⟨c0, f0⟩ := B0.facts
          have z0 := B0.lt
          obtain ⟨c1, f1⟩ := B1.facts
          have z1 := B1.lt
          obtain ⟨c6, f6⟩ := B6.facts
          have z6 := B6.lt
          obtain ⟨cC, fC⟩ := BC.facts
          have zC := BC.lt
          obtain ⟨cD, fD⟩ := BD.facts
          have zD := BD.lt
          go_wp2_with fail
          exact ⟨⟨k + 1, by omega, by simp, by rw [hcn, ← hci]; simp, B0, B1, B6, B8, hq5, hq6, hK⟩, by simp [intOf]; omega⟩
        · skip
          rw [hs2, hpe] at hci
          clear hap hps hqs
          clear hcl2
          refine (prefix_Covers_is ⟨⟨ph, pl, pv⟩, pn⟩ ⟨⟨qh, ql, qv⟩, qn⟩ _ hcv).mono ?_
          rintro e w1 ⟨rfl, hb1⟩
          have B0 := B0.call hb1.out
          have B1 := B1.call hb1.out
          have B6 := B6.call hb1.out
          have B8 := B8.call hb1.out
          have BC := BC.call hb1.out
          have BD := BD.call hb1.out
          have hq5 := hq5.call hb1.out
          have hq6 := hq6.call hb1.out
          have hK := hK.call hb1.out
          clear hb1
          obtain ⟨c0, f0⟩ := B0.facts
          have z0 := B0.lt
          obtain ⟨c1, f1⟩ := B1.facts
          have z1 := B1.lt
          obtain ⟨c6, f6⟩ := B6.facts
          have z6 := B6.lt
          obtain ⟨cC, fC⟩ := BC.facts
          have zC := BC.lt
          obtain ⟨cD, fD⟩ := BD.facts
          have zD := BD.lt
          go_wp2_with fail
          refine (prefix_Apart_is ⟨⟨ph, pl, pv⟩, pn⟩ p _ hpe).mono ?_
          rintro e w1 ⟨rfl, hb1⟩
          clear c0 f0 z0 c1 f1 z1 c6 f6 z6 cC fC zC cD fD zD
          have B0 := B0.call hb1.out
          have B1 := B1.call hb1.out
          have B6 := B6.call hb1.out
          have B8 := B8.call hb1.out
          have BC := BC.call hb1.out
          have BD := BD.call hb1.out
          have hq5 := hq5.call hb1.out
          have hq6 := hq6.call hb1.out
          have hK := hK.call hb1.out
          clear hb1
          obtain ⟨c0, f0⟩ := B0.facts
          have z0 := B0.lt
          obtain ⟨c1, f1⟩ := B1.facts
          have z1 := B1.lt
          obtain ⟨c6, f6⟩ := B6.facts
          have z6 := B6.lt
          obtain ⟨cC, fC⟩ := BC.facts
          have zC := BC.lt
          obtain ⟨cD, fD⟩ := BD.facts
          have zD := BD.lt
          go_wp2_with fail
          refine (prefix_Sane_is p _ hs2).mono ?_
          rintro e w1 ⟨rfl, hb1⟩
          clear c0 f0 z0 c1 f1 z1 c6 f6 z6 cC fC zC cD fD zD
          have B0 := B0.call hb1.out
          have B1 := B1.call hb1.out
          have B6 := B6.call hb1.out
          have B8 := B8.call hb1.out
          have BC := BC.call hb1.out
          have BD := BD.call hb1.out
          have hq5 := hq5.call hb1.out
          have hq6 := hq6.call hb1.out
          have hK := hK.call hb1.out
          clear hb1
          obtain ⟨c0, f0⟩ := B0.facts
          have z0 := B0.lt
          obtain ⟨c1, f1⟩ := B1.facts
          have z1 := B1.lt
          obtain ⟨c6, f6⟩ := B6.facts
          have z6 := B6.lt
          obtain ⟨cC, fC⟩ := BC.facts
          have zC := BC.lt
          obtain ⟨cD, fD⟩ := BD.facts
          have zD := BD.lt
          go_wp2_with fail
          exact ⟨⟨k + 1, by omega, by simp, by rw [hcn, ← hci]; simp, B0, B1, B6, B8, hq5, hq6, hK⟩, by simp [intOf]; omega⟩
      · cases hpe : apaP ⟨⟨ph, pl, pv⟩, pn⟩ p
        · cases fs
          · skip
            rw [hs2, hpe] at hci
            clear hap hps hqs
            have hpf := hcl2 hs2 rfl
            clear hcl2
            refine (prefix_Covers_is ⟨⟨ph, pl, pv⟩, pn⟩ ⟨⟨qh, ql, qv⟩, qn⟩ _ hcv).mono ?_
            rintro e w1 ⟨rfl, hb1⟩
            have B0 := B0.call hb1.out
            have B1 := B1.call hb1.out
            have B6 := B6.call hb1.out
            have B8 := B8.call hb1.out
            have BC := BC.call hb1.out
            have BD := BD.call hb1.out
            have hq5 := hq5.call hb1.out
            have hq6 := hq6.call hb1.out
            have hK := hK.call hb1.out
            clear hb1
            obtain ⟨c0, f0⟩ := B0.facts
            have z0 := B0.lt
            obtain ⟨c1, f1⟩ := B1.facts
            have z1 := B1.lt
            obtain ⟨c6, f6⟩ := B6.facts
            have z6 := B6.lt
            obtain ⟨cC, fC⟩ := BC.facts
            have zC := BC.lt
            obtain ⟨cD, fD⟩ := BD.facts
            have zD := BD.lt
            go_wp2_with fail
            refine (prefix_Apart_is ⟨⟨qh, ql, qv⟩, qn⟩ p _ hpf).mono ?_
            rintro e w1 ⟨rfl, hb1⟩
            clear c0 f0 z0 c1 f1 z1 c6 f6 z6 cC fC zC cD fD zD
            have B0 := B0.call hb1.out
            have B1 := B1.call hb1.out
            have B6 := B6.call hb1.out
            have B8 := B8.call hb1.out
            have BC := BC.call hb1.out
            have BD := BD.call hb1.out
            have hq5 := hq5.call hb1.out
            have hq6 := hq6.call hb1.out
            have hK := hK.call hb1.out
            clear hb1
            obtain ⟨c0, f0⟩ := B0.facts
            have z0 := B0.lt
            obtain ⟨c1, f1⟩ := B1.facts
            have z1 := B1.lt
            obtain ⟨c6, f6⟩ := B6.facts
            have z6 := B6.lt
            obtain ⟨cC, fC⟩ := BC.facts
            have zC := BC.lt
            obtain ⟨cD, fD⟩ := BD.facts
            have zD := BD.lt
            go_wp2_with fail
            refine (prefix_Apart_is ⟨⟨ph, pl, pv⟩, pn⟩ p _ hpe).mono ?_
            rintro e w1 ⟨rfl, hb1⟩
            clear c0 f0 z0 c1 f1 z1 c6 f6 z6 cC fC zC cD fD zD
            have B0 := B0.call hb1.out
            have B1 := B1.call hb1.out
            have B6 := B6.call hb1.out
            have B8 := B8.call hb1.out
            have BC := BC.call hb1.out
            have BD := BD.call hb1.out
            have hq5 := hq5.call hb1.out
            have hq6 := hq6.call hb1.out
            have hK := hK.call hb1.out
            clear hb1
            obtain ⟨c0, f0⟩ := B0.facts
            have z0 := B0.lt
            obtain ⟨c1, f1⟩ := B1.facts
            have z1 := B1.lt
            obtain ⟨c6, f6⟩ := B6.facts
            have z6 := B6.lt
            obtain ⟨cC, fC⟩ := BC.facts
            have zC := BC.lt
            obtain ⟨cD, fD⟩ := BD.facts
            have zD := BD.lt
            go_wp2_with fail
            refine (prefix_Sane_is p _ hs2).mono ?_
            rintro e w1 ⟨rfl, hb1⟩
            clear c0 f0 z0 c1 f1 z1 c6 f6 z6 cC fC zC cD fD zD
            have B0 := B0.call hb1.out
            have B1 := B1.call hb1.out
            have B6 := B6.call hb1.out
            have B8 := B8.call hb1.out
            have BC := BC.call hb1.out
            have BD := BD.call hb1.out
            have hq5 := hq5.call hb1.out
            have hq6 := hq6.call hb1.out
            have hK := hK.call hb1.out
            clear hb1
            obtain ⟨c0, f0⟩ := B0.facts
            have z0 := B0.lt
            obtain ⟨c1, f1⟩ := B1.facts
            have z1 := B1.lt
            obtain ⟨c6, f6⟩ := B6.facts
            have z6 := B6.lt
            obtain ⟨cC, fC⟩ := BC.facts
            have zC := BC.lt
            obtain ⟨cD, fD⟩ := BD.facts
            have zD := BD.lt
            go_wp2_with fail
            refine (prefix_Apart_is ⟨⟨ph, pl, pv⟩, pn⟩ p _ hpe).mono ?_
            rintro e w1 ⟨rfl, hb1⟩
            clear c0 f0 z0 c1 f1 z1 c6 f6 z6 cC fC zC cD fD zD
            have B0 := B0.call hb1.out
            have B1 := B1.call hb1.out
            have B6 := B6.call hb1.out
            have B8 := B8.call hb1.out
            have BC := BC.call hb1.out
            have BD := BD.call hb1.out
            have hq5 := hq5.call hb1.out
            have hq6 := hq6.call hb1.out
            have hK := hK.call hb1.out
            clear hb1
            obtain ⟨c0, f0⟩ := B0.facts
            have z0 := B0.lt
            obtain ⟨c1, f1⟩ := B1.facts
            have z1 := B1.lt
            obtain ⟨c6, f6⟩ := B6.facts
            have z6 := B6.lt
            obtain ⟨cC, fC⟩ := BC.facts
            have zC := BC.lt
            obtain ⟨cD, fD⟩ := BD.facts
            have zD := BD.lt
            go_wp2_with fail
            exact ⟨⟨k + 1, by omega, by simp, by rw [hcn, ← hci]; simp, B0, B1, B6, B8, hq5, hq6, hK⟩, by simp [intOf]; omega⟩
          · skip
            rw [hs2, hpe] at hci
            clear hap hps hqs
            clear hcl2
            refine (prefix_Covers_is ⟨⟨ph, pl, pv⟩, pn⟩ ⟨⟨qh, ql, qv⟩, qn⟩ _ hcv).mono ?_
            rintro e w1 ⟨rfl, hb1⟩
            have B0 := B0.call hb1.out
            have B1 := B1.call hb1.out
            have B6 := B6.call hb1.out
            have B8 := B8.call hb1.out
            have BC := BC.call hb1.out
            have BD := BD.call hb1.out
            have hq5 := hq5.call hb1.out
            have hq6 := hq6.call hb1.out
            have hK := hK.call hb1.out
            clear hb1
            obtain ⟨c0, f0⟩ := B0.facts
            have z0 := B0.lt
            obtain ⟨c1, f1⟩ := B1.facts
            have z1 := B1.lt
            obtain ⟨c6, f6⟩ := B6.facts
            have z6 := B6.lt
            obtain ⟨cC, fC⟩ := BC.facts
            have zC := BC.lt
            obtain ⟨cD, fD⟩ := BD.facts
            have zD := BD.lt
            go_wp2_with fail
            refine (prefix_Apart_is ⟨⟨ph, pl, pv⟩, pn⟩ p _ hpe).mono ?_
            rintro e w1 ⟨rfl, hb1⟩
            clear c0 f0 z0 c1 f1 z1 c6 f6 z6 cC fC zC cD fD zD
            have B0 := B0.call hb1.out
            have B1 := B1.call hb1.out
            have B6 := B6.call hb1.out
            have B8 := B8.call hb1.out
            have BC := BC.call hb1.out
            have BD := BD.call hb1.out
            have hq5 := hq5.call hb1.out
            have hq6 := hq6.call hb1.out
            have hK := hK.call hb1.out
            clear hb1
            obtain ⟨c0, f0⟩ := B0.facts
            have z0 := B0.lt
            obtain ⟨c1, f1⟩ := B1.facts
            have z1 := B1.lt
            obtain ⟨c6, f6⟩ := B6.facts
            have z6 := B6.lt
            obtain ⟨cC, fC⟩ := BC.facts
            have zC := BC.lt
            obtain ⟨cD, fD⟩ := BD.facts
            have zD := BD.lt
            go_wp2_with fail
            refine (prefix_Sane_is p _ hs2).mono ?_
            rintro e w1 ⟨rfl, hb1⟩
            clear c0 f0 z0 c1 f1 z1 c6 f6 z6 cC fC zC cD fD zD
            have B0 := B0.call hb1.out
            have B1 := B1.call hb1.out
            have B6 := B6.call hb1.out
            have B8 := B8.call hb1.out
            have BC := BC.call hb1.out
            have BD := BD.call hb1.out
            have hq5 := hq5.call hb1.out
            have hq6 := hq6.call hb1.out
            have hK := hK.call hb1.out
            clear hb1
            obtain ⟨c0, f0⟩ := B0.facts
            have z0 := B0.lt
            obtain ⟨c1, f1⟩ := B1.facts
            have z1 := B1.lt
            obtain ⟨c6, f6⟩ := B6.facts
            have z6 := B6.lt
            obtain ⟨cC, fC⟩ := BC.facts
            have zC := BC.lt
            obtain ⟨cD, fD⟩ := BD.facts
            have zD := BD.lt
            go_wp2_with fail
            refine (prefix_Apart_is ⟨⟨ph, pl, pv⟩, pn⟩ p _ hpe).mono ?_
            rintro e w1 ⟨rfl, hb1⟩
            clear c0 f0 z0 c1 f1 z1 c6 f6 z6 cC fC zC cD fD zD
            have B0 := B0.call hb1.out
            have B1 := B1.call hb1.out
            have B6 := B6.call hb1.out
            have B8 := B8.call hb1.out
            have BC := BC.call hb1.out
            have BD := BD.call hb1.out
            have hq5 := hq5.call hb1.out
            have hq6 := hq6.call hb1.out
            have hK := hK.call hb1.out
            clear hb1
            obtain ⟨c0, f0⟩ := B0.facts
            have z0 := B0.lt
            obtain ⟨c1, f1⟩ := B1.facts
            have z1 := B1.lt
            obtain ⟨c6, f6⟩ := B6.facts
            have z6 := B6.lt
            obtain ⟨cC, fC⟩ := BC.facts
            have zC := BC.lt
            obtain ⟨cD, fD⟩ := BD.facts
            have zD := BD.lt
            go_wp2_with fail
            exact ⟨⟨k + 1, by omega, by simp, by rw [hcn, ← hci]; simp, B0, B1, B6, B8, hq5, hq6, hK⟩, by simp [intOf]; omega⟩
        · cases fs
          · skip
            have hfe2 := hap hpe
            simp only [EntryV.mk.injEq, RouteV.mk.injEq, PrefV.mk.injEq, AddrV.mk.injEq, true_and, and_true] at hfe2
            obtain ⟨⟨⟨q1, q2, q3⟩, q4⟩, q5⟩ := hfe2
            subst q1 q2 q3 q4 q5
            rw [hs2, hpe] at hci
            clear hap hps hqs
            have hpf := hcl2 hs2 rfl
            clear hcl2
            refine (prefix_Covers_is ⟨⟨qh, ql, qv⟩, qn⟩ ⟨⟨qh, ql, qv⟩, qn⟩ _ hcv).mono ?_
            rintro e w1 ⟨rfl, hb1⟩
            have B0 := B0.call hb1.out
            have B1 := B1.call hb1.out
            have B6 := B6.call hb1.out
            have B8 := B8.call hb1.out
            have BC := BC.call hb1.out
            have BD := BD.call hb1.out
            have hq5 := hq5.call hb1.out
            have hq6 := hq6.call hb1.out
            have hK := hK.call hb1.out
            clear hb1
            obtain ⟨c0, f0⟩ := B0.facts
            have z0 := B0.lt
            obtain ⟨c1, f1⟩ := B1.facts
            have z1 := B1.lt
            obtain ⟨c6, f6⟩ := B6.facts
            have z6 := B6.lt
            obtain ⟨cC, fC⟩ := BC.facts
            have zC := BC.lt
            obtain ⟨cD, fD⟩ := BD.facts
            have zD := BD.lt
            go_wp2_with fail
            refine (prefix_Apart_is ⟨⟨qh, ql, qv⟩, qn⟩ p _ hpf).mono ?_
            rintro e w1 ⟨rfl, hb1⟩
            clear c0 f0 z0 c1 f1 z1 c6 f6 z6 cC fC zC cD fD zD
            have B0 := B0.call hb1.out
            have B1 := B1.call hb1.out
            have B6 := B6.call hb1.out
            have B8 := B8.call hb1.out
            have BC := BC.call hb1.out
            have BD := BD.call hb1.out
            have hq5 := hq5.call hb1.out
            have hq6 := hq6.call hb1.out
            have hK := hK.call hb1.out
            clear hb1
            obtain ⟨c0, f0⟩ := B0.facts
            have z0 := B0.lt
            obtain ⟨c1, f1⟩ := B1.facts
            have z1 := B1.lt
            obtain ⟨c6, f6⟩ := B6.facts
            have z6 := B6.lt
            obtain ⟨cC, fC⟩ := BC.facts
            have zC := BC.lt
            obtain ⟨cD, fD⟩ := BD.facts
            have zD := BD.lt
            go_wp2_with fail
            refine (prefix_Apart_is ⟨⟨qh, ql, qv⟩, qn⟩ p _ hpe).mono ?_
            rintro e w1 ⟨rfl, hb1⟩
            clear c0 f0 z0 c1 f1 z1 c6 f6 z6 cC fC zC cD fD zD
            have B0 := B0.call hb1.out
            have B1 := B1.call hb1.out
            have B6 := B6.call hb1.out
            have B8 := B8.call hb1.out
            have BC := BC.call hb1.out
            have BD := BD.call hb1.out
            have hq5 := hq5.call hb1.out
            have hq6 := hq6.call hb1.out
            have hK := hK.call hb1.out
            clear hb1
            obtain ⟨c0, f0⟩ := B0.facts
            have z0 := B0.lt
            obtain ⟨c1, f1⟩ := B1.facts
            have z1 := B1.lt
            obtain ⟨c6, f6⟩ := B6.facts
            have z6 := B6.lt
            obtain ⟨cC, fC⟩ := BC.facts
            have zC := BC.lt
            obtain ⟨cD, fD⟩ := BD.facts
            have zD := BD.lt
            go_wp2_with fail
            refine (prefix_Sane_is p _ hs2).mono ?_
            rintro e w1 ⟨rfl, hb1⟩
            clear c0 f0 z0 c1 f1 z1 c6 f6 z6 cC fC zC cD fD zD
            have B0 := B0.call hb1.out
            have B1 := B1.call hb1.out
            have B6 := B6.call hb1.out
            have B8 := B8.call hb1.out
            have BC := BC.call hb1.out
            have BD := BD.call hb1.out
            have hq5 := hq5.call hb1.out
            have hq6 := hq6.call hb1.out
            have hK := hK.call hb1.out
            clear hb1
            obtain ⟨c0, f0⟩ := B0.facts
            have z0 := B0.lt
            obtain ⟨c1, f1⟩ := B1.facts
            have z1 := B1.lt
            obtain ⟨c6, f6⟩ := B6.facts
            have z6 := B6.lt
            obtain ⟨cC, fC⟩ := BC.facts
            have zC := BC.lt
            obtain ⟨cD, fD⟩ := BD.facts
            have zD := BD.lt
            go_wp2_with fail
            refine (prefix_Apart_is ⟨⟨qh, ql, qv⟩, qn⟩ p _ hpe).mono ?_
            rintro e w1 ⟨rfl, hb1⟩
            clear c0 f0 z0 c1 f1 z1 c6 f6 z6 cC fC zC cD fD zD
            have B0 := B0.call hb1.out
            have B1 := B1.call hb1.out
            have B6 := B6.call hb1.out
            have B8 := B8.call hb1.out
            have BC := BC.call hb1.out
            have BD := BD.call hb1.out
            have hq5 := hq5.call hb1.out
            have hq6 := hq6.call hb1.out
            have hK := hK.call hb1.out
            clear hb1
            obtain ⟨c0, f0⟩ := B0.facts
            have z0 := B0.lt
            obtain ⟨c1, f1⟩ := B1.facts
            have z1 := B1.lt
            obtain ⟨c6, f6⟩ := B6.facts
            have z6 := B6.lt
            obtain ⟨cC, fC⟩ := BC.facts
            have zC := BC.lt
            obtain ⟨cD, fD⟩ := BD.facts
            have zD := BD.lt
            go_wp2_with fail
            exact ⟨⟨k + 1, by omega, by simp, by rw [hcn, ← hci]; simp, B0, B1, B6, B8, hq5, hq6, hK⟩, by simp [intOf]; omega⟩
          · skip
            have hfe2 := hap hpe
            simp only [EntryV.mk.injEq, RouteV.mk.injEq, PrefV.mk.injEq, AddrV.mk.injEq, true_and, and_true] at hfe2
            obtain ⟨⟨⟨q1, q2, q3⟩, q4⟩, q5⟩ := hfe2
            subst q1 q2 q3 q4 q5
            rw [hs2, hpe] at hci
            clear hap hps hqs
            clear hcl2
            refine (prefix_Covers_is ⟨⟨qh, ql, qv⟩, qn⟩ ⟨⟨qh, ql, qv⟩, qn⟩ _ hcv).mono ?_
            rintro e w1 ⟨rfl, hb1⟩
            have B0 := B0.call hb1.out
            have B1 := B1.call hb1.out
            have B6 := B6.call hb1.out
            have B8 := B8.call hb1.out
            have BC := BC.call hb1.out
            have BD := BD.call hb1.out
            have hq5 := hq5.call hb1.out
            have hq6 := hq6.call hb1.out
            have hK := hK.call hb1.out
            clear hb1
            obtain ⟨c0, f0⟩ := B0.facts
            have z0 := B0.lt
            obtain ⟨c1, f1⟩ := B1.facts
            have z1 := B1.lt
            obtain ⟨c6, f6⟩ := B6.facts
            have z6 := B6.lt
            obtain ⟨cC, fC⟩ := BC.facts
            have zC := BC.lt
            obtain ⟨cD, fD⟩ := BD.facts
            have zD := BD.lt
            go_wp2_with fail
            refine (prefix_Apart_is ⟨⟨qh, ql, qv⟩, qn⟩ p _ hpe).mono ?_
            rintro e w1 ⟨rfl, hb1⟩
            clear c0 f0 z0 c1 f1 z1 c6 f6 z6 cC fC zC cD fD zD
            have B0 := B0.call hb1.out
            have B1 := B1.call hb1.out
            have B6 := B6.call hb1.out
            have B8 := B8.call hb1.out
            have BC := BC.call hb1.out
            have BD := BD.call hb1.out
            have hq5 := hq5.call hb1.out
            have hq6 := hq6.call hb1.out
            have hK := hK.call hb1.out
            clear hb1
            obtain ⟨c0, f0⟩ := B0.facts
            have z0 := B0.lt
            obtain ⟨c1, f1⟩ := B1.facts
            have z1 := B1.lt
            obtain ⟨c6, f6⟩ := B6.facts
            have z6 := B6.lt
            obtain ⟨cC, fC⟩ := BC.facts
            have zC := BC.lt
            obtain ⟨cD, fD⟩ := BD.facts
            have zD := BD.lt
            go_wp2_with fail
            refine (prefix_Sane_is p _ hs2).mono ?_
            rintro e w1 ⟨rfl, hb1⟩
            clear c0 f0 z0 c1 f1 z1 c6 f6 z6 cC fC zC cD fD zD
            have B0 := B0.call hb1.out
            have B1 := B1.call hb1.out
            have B6 := B6.call hb1.out
            have B8 := B8.call hb1.out
            have BC := BC.call hb1.out
            have BD := BD.call hb1.out
            have hq5 := hq5.call hb1.out
            have hq6 := hq6.call hb1.out
            have hK := hK.call hb1.out
            clear hb1
            obtain ⟨c0, f0⟩ := B0.facts
            have z0 := B0.lt
            obtain ⟨c1, f1⟩ := B1.facts
            have z1 := B1.lt
            obtain ⟨c6, f6⟩ := B6.facts
            have z6 := B6.lt
            obtain ⟨cC, fC⟩ := BC.facts
            have zC := BC.lt
            obtain ⟨cD, fD⟩ := BD.facts
            have zD := BD.lt
            go_wp2_with fail
            refine (prefix_Apart_is ⟨⟨qh, ql, qv⟩, qn⟩ p _ hpe).mono ?_
            rintro e w1 ⟨rfl, hb1⟩
            clear c0 f0 z0 c1 f1 z1 c6 f6 z6 cC fC zC cD fD zD
            have B0 := B0.call hb1.out
            have B1 := B1.call hb1.out
            have B6 := B6.call hb1.out
            have B8 := B8.call hb1.out
            have BC := BC.call hb1.out
            have BD := BD.call hb1.out
            have hq5 := hq5.call hb1.out
            have hq6 := hq6.call hb1.out
            have hK := hK.call hb1.out
            clear hb1
            obtain ⟨c0, f0⟩ := B0.facts
            have z0 := B0.lt
            obtain ⟨c1, f1⟩ := B1.facts
            have z1 := B1.lt
            obtain ⟨c6, f6⟩ := B6.facts
            have z6 := B6.lt
            obtain ⟨cC, fC⟩ := BC.facts
            have zC := BC.lt
            obtain ⟨cD, fD⟩ := BD.facts
            have zD := BD.lt
            go_wp2_with fail
            exact ⟨⟨k + 1, by omega, by simp, by rw [hcn, ← hci]; simp, B0, B1, B6, B8, hq5, hq6, hK⟩, by simp [intOf]; omega⟩
    · obtain rfl : k = xs.length := by omega
      rw [Hn1.out]
      have d9 : decide ((xs.length : Int) < (xs.length : Int)) = false := decide_eq_false (by omega)
      obtain ⟨c0, f0⟩ := B0.facts
      obtain ⟨c6, f6⟩ := B6.facts
      obtain ⟨c8, f8⟩ := B8.facts
      go_wp2_with fail
      clear c0 f0 c6 f6 c8 f8
      have hS : Steady (fun W' => Blk W' w.heap.size 30 #[.slice A xs.length cap, .int .i64 bd] ∧ Blk W' g6 26 #[.slice A5 xs.length cap5, .int .i64 bd] ∧ Blk W' g8 26 #[.slice A6 xs.length cap6, .int .i64 bd] ∧ IsQ W' (.agg #[.slice A5 xs.length cap5, .int .i64 bd]) ys bd ∧ IsQ W' (.agg #[.slice A6 xs.length cap6, .int .i64 bd]) ys bd ∧ Kept w W') := fun w1 w2 h hb => ⟨h.1.call hb, h.2.1.call hb, h.2.2.1.call hb, h.2.2.2.1.call hb, h.2.2.2.2.1.call hb, h.2.2.2.2.2.call hb⟩
      refine wp_region_h 13 [(0, 0), (1, 0), (2, 0), (3, 0), (4, 0), (5, 0), (6, 0), (7, 0), (9, 0), (8, 1), (10, 1), (11, 0), (12, 0)] [] 0 (fun W' => Blk W' w.heap.size 30 #[.slice A xs.length cap, .int .i64 bd] ∧ Blk W' g6 26 #[.slice A5 xs.length cap5, .int .i64 bd] ∧ Blk W' g8 26 #[.slice A6 xs.length cap6, .int .i64 bd] ∧ IsQ W' (.agg #[.slice A5 xs.length cap5, .int .i64 bd]) ys bd ∧ IsQ W' (.agg #[.slice A6 xs.length cap6, .int .i64 bd]) ys bd ∧ Kept w W') (by kernel_rfl) (by kernel_rfl) hS (fun _ _ => Nat.zero_le _) ⟨B0.drew, B6.drew, B8.drew, hq5.drew, hq6.drew, hK.drew⟩ ?_
      simp only [List.map_cons, List.map_nil, List.getElem?_toArray, List.getElem?_cons_succ, List.getElem?_cons_zero]
      clear B0 B1 B6 B8 hq5 hq6 hK
      repeat (first
        | (apply h_val; rfl; (intro W hC; have hD := hC; obtain ⟨b0, b6, b8, _, _, _⟩ := hD; have k0 := b0.cell; have k6 := b6.cell; have k8 := b8.cell; clear hC b0 b6 b8; go_simp; rfl); go_simp)
        | (refine h_off rfl ?_; go_simp))
      refine h_loud (f := 29) (args := #[.agg #[.slice A5 xs.length cap5, .int .i64 bd]]) (Option Addr × Nat) (fun p => .agg #[.slice p.1 xs.length p.2, .int .i64 bd]) (fun p W => xs.length ≤ p.2 ∧ Rd W W.heap.size 9 encE p.1 ys) (fun p W' => (Blk W' w.heap.size 30 #[.slice A xs.length cap, .int .i64 bd] ∧ Blk W' g6 26 #[.slice A5 xs.length cap5, .int .i64 bd] ∧ Blk W' g8 26 #[.slice A6 xs.length cap6, .int .i64 bd] ∧ IsQ W' (.agg #[.slice A5 xs.length cap5, .int .i64 bd]) ys bd ∧ IsQ W' (.agg #[.slice A6 xs.length cap6, .int .i64 bd]) ys bd ∧ Kept w W') ∧ xs.length ≤ p.2 ∧ Rd W' W'.heap.size 9 encE p.1 ys) (fun p w1 w2 h hb => ⟨h.1, (h.2.below hb).more hb.size⟩) (fun p w1 w2 h hb => ⟨hS _ _ h.1 hb, h.2.1, (h.2.2.below hb).more hb.size⟩) (fun _ _ h => h.1) (fun _ _ h hF => ⟨h, hF⟩) rfl (by intro j hj; cases hj) (fun W hC => by go_simp) ?_ ?_
      · intro W hC
        obtain ⟨A9, cap9, ev, hc9, hr9, _⟩ := hC.2.2.2.1
        rw [Hyl.out] at ev hc9
        injection ev with ev
        injection ev with ev
        injection ev with ev _
        injection ev with ev1 _ ev2
        subst ev1 ev2
        have ht := law_theirs A5 cap5 ys bd W hr9 (by rw [Hyl.out]; exact hc9) (by rw [Hyl.out]; omega)
        rw [Hyl.out] at ht
        refine ht.mono ?_
        rintro e w1 ⟨⟨A', cap', rfl, hcc, hrr⟩, hk⟩
        exact ⟨(A', cap'), rfl, hk, hcc, hrr⟩
      intro p1
      go_simp
      have hS1 : Steady (fun W' => (Blk W' w.heap.size 30 #[.slice A xs.length cap, .int .i64 bd] ∧ Blk W' g6 26 #[.slice A5 xs.length cap5, .int .i64 bd] ∧ Blk W' g8 26 #[.slice A6 xs.length cap6, .int .i64 bd] ∧ IsQ W' (.agg #[.slice A5 xs.length cap5, .int .i64 bd]) ys bd ∧ IsQ W' (.agg #[.slice A6 xs.length cap6, .int .i64 bd]) ys bd ∧ Kept w W') ∧ xs.length ≤ p1.2 ∧ Rd W' W'.heap.size 9 encE p1.1 ys) := fun w1 w2 h hb => ⟨hS _ _ h.1 hb, h.2.1, (h.2.2.below hb).more hb.size⟩
      repeat (first
        | (apply h_val; rfl; (intro W hC; have hD := hC.1; obtain ⟨b0, b6, b8, _, _, _⟩ := hD; have k0 := b0.cell; have k6 := b6.cell; have k8 := b8.cell; clear hC b0 b6 b8; go_simp; rfl); go_simp)
        | (refine h_off rfl ?_; go_simp))
      refine h_loud (f := 29) (args := #[.agg #[.slice A6 xs.length cap6, .int .i64 bd]]) (Option Addr × Nat) (fun p => .agg #[.slice p.1 xs.length p.2, .int .i64 bd]) (fun p W => xs.length ≤ p.2 ∧ Rd W W.heap.size 9 encE p.1 ys) (fun p W' => ((Blk W' w.heap.size 30 #[.slice A xs.length cap, .int .i64 bd] ∧ Blk W' g6 26 #[.slice A5 xs.length cap5, .int .i64 bd] ∧ Blk W' g8 26 #[.slice A6 xs.length cap6, .int .i64 bd] ∧ IsQ W' (.agg #[.slice A5 xs.length cap5, .int .i64 bd]) ys bd ∧ IsQ W' (.agg #[.slice A6 xs.length cap6, .int .i64 bd]) ys bd ∧ Kept w W') ∧ xs.length ≤ p1.2 ∧ Rd W' W'.heap.size 9 encE p1.1 ys) ∧ xs.length ≤ p.2 ∧ Rd W' W'.heap.size 9 encE p.1 ys) (fun p w1 w2 h hb => ⟨h.1, (h.2.below hb).more hb.size⟩) (fun p w1 w2 h hb => ⟨hS1 _ _ h.1 hb, h.2.1, (h.2.2.below hb).more hb.size⟩) (fun _ _ h => h.1) (fun _ _ h hF => ⟨h, hF⟩) rfl (by intro j hj; cases hj) (fun W hC => by go_simp) ?_ ?_
      · intro W hC
        obtain ⟨A9, cap9, ev, hc9, hr9, _⟩ := hC.1.2.2.2.2.1
        rw [Hyl.out] at ev hc9
        injection ev with ev
        injection ev with ev
        injection ev with ev _
        injection ev with ev1 _ ev2
        subst ev1 ev2
        have ht := law_theirs A6 cap6 ys bd W hr9 (by rw [Hyl.out]; exact hc9) (by rw [Hyl.out]; omega)
        rw [Hyl.out] at ht
        refine ht.mono ?_
        rintro e w1 ⟨⟨A', cap', rfl, hcc, hrr⟩, hk⟩
        exact ⟨(A', cap'), rfl, hk, hcc, hrr⟩
      intro p2
      go_simp
      repeat (first
        | (apply h_val; rfl; (intro W hC; have hD := hC.1.1; obtain ⟨b0, b6, b8, _, _, _⟩ := hD; have k0 := b0.cell; have k6 := b6.cell; have k8 := b8.cell; clear hC b0 b6 b8; go_simp; rfl); go_simp)
        | (refine h_off rfl ?_; go_simp)
        | (apply h_call (f := 28); rfl; (intro W hC; go_simp; rfl); (intro W hC; (have ht := ref14_Same p1.1 p2.1 p1.2 p2.2 ys bd W hC.1.2.2 (by rw [Hyl.out]; exact hC.1.2.1) hC.2.2 (by rw [Hyl.out]; exact hC.2.1) (by rw [Hyl.out]; omega)); rw [Hyl.out] at ht; refine ht.mono ?_; rintro e w1 ⟨rfl, hb1⟩; exact ⟨rfl, hb1.out⟩); go_simp))
      refine h_end fun w10 hC => ?_
      obtain ⟨⟨⟨_, _, _, _, _, hK⟩, _⟩, _⟩ := hC
      go_wp2_with fail
      go_ret
      exact ⟨rfl, hK⟩
end Go.Proofs.Ytapiffkeclnbbaa.Q
