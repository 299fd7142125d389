import Derived.Test.YtapiffkeclnbbaaProg
import Derived.Below
import Derived.Deep.Draws
import Derived.Deep.AppendLies
import Derived.Maps.AppendAt
import Derived.OwnWalk
import Derived.Laws.MakeOwn
import Derived.Laws.OwnMore
import Derived.Deep.OwnRows
import Derived.Tactics
import Derived.Laws.Slices
import Derived.WalkKit
import Derived.KernelRfl
import Derived.RowKit3
import Derived.Deep.LoopGhost
import Derived.Deep.QuietTactic
import Derived.BigQuiet
import Derived.WideLaws
import Derived.Deep.DeepCutAuto
import Derived.Deep.CutBlock
import Derived.Deep.RegionHeld3
import Derived.Deep.RegionWith
import Derived.Deep.RegionLaw
import Derived.Laws.Rows
import Derived.ArgAppend
import Derived.OrdersHeld
import Derived.Laws.BitsLemmas
import Derived.Laws.StructEq
import Derived.RowKit
import Derived.Lib.Hide
import Derived.Lib.SliceRun
import Derived.StillTail
import Derived.Test.YtapiffkeclnbbaaB0
import Derived.Test.YtapiffkeclnbbaaB1
import Derived.Test.YtapiffkeclnbbaaB2
import Derived.Test.YtapiffkeclnbbaaB3
import Derived.Test.YtapiffkeclnbbaaB4
import Derived.Test.YtapiffkeclnbbaaB5
import Derived.Test.YtapiffkeclnbbaaB6
import Derived.Test.YtapiffkeclnbbaaB7
import Derived.Test.YtapiffkeclnbbaaB8
import Derived.Test.YtapiffkeclnbbaaA1
import Derived.Test.YtapiffkeclnbbaaA2
import Derived.Test.YtapiffkeclnbbaaA3
import Derived.Test.YtapiffkeclnbbaaA4
import Derived.Test.YtapiffkeclnbbaaA5
import Derived.Test.YtapiffkeclnbbaaA6
import Derived.Test.YtapiffkeclnbbaaQ1
import Derived.Test.YtapiffkeclnbbaaQ2
import Derived.Test.YtapiffkeclnbbaaQ3
import Derived.Test.YtapiffkeclnbbaaQ4
import Derived.Test.YtapiffkeclnbbaaQ5
import Derived.Test.YtapiffkeclnbbaaQ6
import Derived.Test.YtapiffkeclnbbaaQ7
import Derived.Test.YtapiffkeclnbbaaQ8
import Derived.Test.YtapiffkeclnbbaaQ9
/-! queue.Offer, where it is enqueued. -/
set_option linter.unusedVariables false
set_option linter.unusedSimpArgs false
namespace Go.Proofs.Ytapiffkeclnbbaa.Q
open Go.RowKit Go.Proofs.Ytapiffkeclnbbaa.B0 Go.Proofs.Ytapiffkeclnbbaa.A2
attribute [local irreducible] wpHq
set_option maxHeartbeats 1000000 in
set_option maxRecDepth 100000 in
theorem queue_Offer_ok (v : Value) (xs : List EntryV) (bd : Int) (a : AddrV) (x : RouteV) (w : World) (hq : IsQ w v xs bd) (hlen : xs.length ≤ 1024) (hs : saneQ xs bd = true) (hf : firE xs a = -1) (hl : (xs.length : Int) ≠ bd) (hfit : fitE a x = true) :
    Calls Try.prog 22 #[v, .agg #[.int .u64 a.h, .int .u64 a.l, .bool a.v], .agg #[.int .u64 x.p.a.h, .int .u64 x.p.a.l, .bool x.p.a.v, .int .i64 x.p.n, .int .i64 x.hop]] w fun e w' => (∃ v', e = .returned (.tuple #[v', .int .i64 3]) ∧ IsQ w' v' (xs ++ [⟨a, x, false⟩]) bd) ∧ Kept w w' := by
  obtain ⟨A, cap, rfl, hc, hr, hty⟩ := hq
  have hu := Try.underlying26
  have hu2 := Try.underlying34
  have hu3 := Try.underlying38
  have hq : IsQ w (.agg #[.slice A xs.length cap, .int .i64 bd]) xs bd := ⟨A, cap, rfl, hc, hr, hty⟩
  obtain ⟨ys, hys⟩ : ∃ ys, ys = xs ++ [(⟨a, x, false⟩ : EntryV)] := ⟨_, rfl⟩
  rw [← hys]
  have Hys := Lib.hid hys
  clear hys
  have d0 : (firE xs a == -1) = true := by simpa using hf
  have d1 : ((xs.length : Int) == bd) = false := by simpa using hl
  have Hf := Lib.hid hf
  have Hl := Lib.hid hl
  have Hfit := Lib.hid hfit
  clear hf hl hfit
  go_enter Try.func22, Try.ntmps22
  go_wp2_with fail
  obtain ⟨W, hW⟩ : ∃ W, (((w.alloc (.cells #[.slice A xs.length cap, .int .i64 bd] 26)).alloc (.cells #[.int .u64 a.h, .int .u64 a.l, .bool a.v] 34)).alloc (.cells #[.int .u64 x.p.a.h, .int .u64 x.p.a.l, .bool x.p.a.v, .int .i64 x.p.n, .int .i64 x.hop] 38)).alloc (.cells #[.slice none 0 0, .int .i64 0] 26) = W := ⟨_, rfl⟩
  have B0 : Blk W w.heap.size 26 #[.slice A xs.length cap, .int .i64 bd] := hW ▸ (((Blk.new _ _ _).alloc _).alloc _).alloc _
  have B1 : Blk W (w.heap.size + 1) 34 #[.int .u64 a.h, .int .u64 a.l, .bool a.v] := hW ▸ ((Blk.new2 _ _ _ _).alloc _).alloc _
  have B2 : Blk W (w.heap.size + 1 + 1) 38 #[.int .u64 x.p.a.h, .int .u64 x.p.a.l, .bool x.p.a.v, .int .i64 x.p.n, .int .i64 x.hop] := hW ▸ (Blk.new3 _ _ _ _ _).alloc _
  have B3 : Blk W (w.heap.size + 1 + 1 + 1) 26 #[.slice none 0 0, .int .i64 0] := hW ▸ Blk.new4 _ _ _ _ _ _
  have hK : Kept w W := hW ▸ ((((Kept.refl w).alloc _).alloc _).alloc _).alloc _
  rw [hW]
  clear hW
  refine (queue_Sane_is _ _ _ _ (hq.below (Nat.le_refl _) hK.out) hlen hs).mono ?_
  rintro e w1 ⟨rfl, hb1⟩
  have B0 := B0.call hb1.out
  have B1 := B1.call hb1.out
  have B2 := B2.call hb1.out
  have B3 := B3.call hb1.out
  have hK := hK.call hb1.out
  clear hb1
  obtain ⟨c0, f0⟩ := B0.facts
  obtain ⟨c1, f1⟩ := B1.facts
  obtain ⟨c2, f2⟩ := B2.facts
  obtain ⟨c3, f3⟩ := B3.facts
  have z0 := B0.lt
  have z1 := B1.lt
  have z2 := B2.lt
  have z3 := B3.lt
  have hr1 := (hr.below hK.out).more hK.size
  go_wp2_with fail
  refine (queue_first A cap a xs (by omega) _ hr1).mono ?_
  rintro e w2 ⟨rfl, hb2⟩
  clear c0 f0 z0 c1 f1 z1 c2 f2 z2 c3 f3 z3
  have B0 := B0.call hb2.out
  have B1 := B1.call hb2.out
  have B2 := B2.call hb2.out
  have B3 := B3.call hb2.out
  have hK := hK.call hb2.out
  clear hb2
  obtain ⟨c0, f0⟩ := B0.facts
  obtain ⟨c1, f1⟩ := B1.facts
  obtain ⟨c2, f2⟩ := B2.facts
  obtain ⟨c3, f3⟩ := B3.facts
  have z0 := B0.lt
  have z1 := B1.lt
  have z2 := B2.lt
  have z3 := B3.lt
  go_wp2_with fail
  refine (queue_fits_is a x _ Hfit.out).mono ?_
  rintro e w3 ⟨rfl, hb3⟩
  clear c0 f0 z0 c1 f1 z1 c2 f2 z2 c3 f3 z3
  have B0 := B0.call hb3.out
  have B1 := B1.call hb3.out
  have B2 := B2.call hb3.out
  have B3 := B3.call hb3.out
  have hK := hK.call hb3.out
  clear hb3
  obtain ⟨c0, f0⟩ := B0.facts
  obtain ⟨c1, f1⟩ := B1.facts
  obtain ⟨c2, f2⟩ := B2.facts
  obtain ⟨c3, f3⟩ := B3.facts
  have z0 := B0.lt
  have z1 := B1.lt
  have z2 := B2.lt
  have z3 := B3.lt
  go_wp2_with fail
  clear c0 f0 z0 c1 f1 z1 c2 f2 z2 c3 f3 z3
  clear d0 d1
  have hS : Steady (fun W' => Blk W' w.heap.size 26 #[.slice A xs.length cap, .int .i64 bd] ∧ Blk W' (w.heap.size + 1) 34 #[.int .u64 a.h, .int .u64 a.l, .bool a.v] ∧ Blk W' (w.heap.size + 1 + 1) 38 #[.int .u64 x.p.a.h, .int .u64 x.p.a.l, .bool x.p.a.v, .int .i64 x.p.n, .int .i64 x.hop] ∧ Blk W' (w.heap.size + 1 + 1 + 1) 26 #[.slice none 0 0, .int .i64 0] ∧ Kept w W' ∧ w3.heap.size ≤ W'.heap.size) := fun w1 w2 h hb => ⟨h.1.call hb, h.2.1.call hb, h.2.2.1.call hb, h.2.2.2.1.call hb, h.2.2.2.2.1.call hb, Nat.le_trans h.2.2.2.2.2 hb.size⟩
  have y3 := B3.lt
  refine wp_region_h 11 [(0, 0), (1, 0), (3, 0), (4, 0), (5, 0), (8, 0), (9, 0), (2, 1), (6, 2), (7, 3), (10, 0)] [6] w3.heap.size (fun W' => Blk W' w.heap.size 26 #[.slice A xs.length cap, .int .i64 bd] ∧ Blk W' (w.heap.size + 1) 34 #[.int .u64 a.h, .int .u64 a.l, .bool a.v] ∧ Blk W' (w.heap.size + 1 + 1) 38 #[.int .u64 x.p.a.h, .int .u64 x.p.a.l, .bool x.p.a.v, .int .i64 x.p.n, .int .i64 x.hop] ∧ Blk W' (w.heap.size + 1 + 1 + 1) 26 #[.slice none 0 0, .int .i64 0] ∧ Kept w W' ∧ w3.heap.size ≤ W'.heap.size) (by kernel_rfl) (by kernel_rfl) hS (fun W h => h.2.2.2.2.2) ⟨B0.drew, B1.drew, B2.drew, B3.drew, hK.drew, Nat.le_refl _⟩ ?_
  simp only [List.map_cons, List.map_nil, List.getElem?_toArray, List.getElem?_cons_succ, List.getElem?_cons_zero]
  repeat (first
    | (apply h_val; rfl; (intro W hC; obtain ⟨b0, b1, b2, b3, hk, hz⟩ := hC; have k0 := b0.cell; have k1 := b1.cell; have k2 := b2.cell; clear b0 b1 b2 b3 hk hz; go_simp; rfl); go_simp)
    | (refine h_off rfl ?_; go_simp))
  refine h_loud (f := 90) (args := #[.slice A xs.length cap]) Value (fun p => p) (fun p W => W.ownsRow w3.heap.size 48 9 p xs.length (xs.flatMap encE)) (fun p W' => Blk W' w.heap.size 26 #[.slice A xs.length cap, .int .i64 bd] ∧ Blk W' (w.heap.size + 1) 34 #[.int .u64 a.h, .int .u64 a.l, .bool a.v] ∧ Blk W' (w.heap.size + 1 + 1) 38 #[.int .u64 x.p.a.h, .int .u64 x.p.a.l, .bool x.p.a.v, .int .i64 x.p.n, .int .i64 x.hop] ∧ Blk W' (w.heap.size + 1 + 1 + 1) 26 #[.slice none 0 0, .int .i64 0] ∧ Kept w W' ∧ w3.heap.size ≤ W'.heap.size) (fun p w1 w2 h hb => own_call h hb) (fun _ => hS) (fun _ _ h => h) (fun _ _ h _ => h) rfl ?_ (fun W hC => by go_simp) ?_ ?_
  · intro j hj
    rw [List.mem_singleton.1 hj]
    exact ⟨_, rfl, rfl, (fun g => .slice (some ⟨g, 0, none⟩) 1 1), #[.int .u64 a.h, .int .u64 a.l, .bool a.v, .int .u64 x.p.a.h, .int .u64 x.p.a.l, .bool x.p.a.v, .int .i64 x.p.n, .int .i64 x.hop, .bool false], 48, by intro w; go_simp⟩
  · intro W hC
    refine (slices_Clone A xs.length cap xs W ((hr.below hC.2.2.2.2.1.out).more hC.2.2.2.2.1.size) rfl hlen).mono ?_
    rintro e w1 ⟨v', rfl, ho, hk⟩
    exact ⟨v', rfl, hk, own_base ho hC.2.2.2.2.2⟩
  intro v1
  go_simp
  refine h_alloc (m := fun g => .slice (some ⟨g, 0, none⟩) 1 1) (z := #[.int .u64 a.h, .int .u64 a.l, .bool a.v, .int .u64 x.p.a.h, .int .u64 x.p.a.l, .bool x.p.a.v, .int .i64 x.p.n, .int .i64 x.hop, .bool false]) (t := 48) rfl ?_ (by intro w; go_simp) ?_
  · intro j hj
    rw [List.mem_singleton.1 hj]
    exact ⟨_, rfl, rfl, (fun g => .slice (some ⟨g, 0, none⟩) 1 1), #[.int .u64 a.h, .int .u64 a.l, .bool a.v, .int .u64 x.p.a.h, .int .u64 x.p.a.l, .bool x.p.a.v, .int .i64 x.p.n, .int .i64 x.hop, .bool false], 48, by intro w; go_simp⟩
  intro g hg
  go_simp
  refine h_alone rfl ?_
  rintro w4 ⟨⟨hC, hown⟩, BG⟩
  obtain ⟨i0, hi, hz0, hz1, hz2⟩ := info_parts info48
  refine wp_append_own w4 (.tmp 36) (.tmp 40) 24 rfl w3.heap.size 48 i0 zE 9 72 und24 hi hz0 hz1 hz2 rfl (by omega) v1 xs.length (xs.flatMap encE) (by simp [Act.eval]) hown ⟨g, 0, none⟩ 1 1 (encE ⟨a, x, false⟩) (by simp [Act.eval]) rfl ?_ ?_ ?_ ?_ ?_ ?_
  · intro j u hj
    rw [Addr.add_lit, BG.cell, Nat.zero_add]
    simpa [encE] using hj
  · intro u hu
    exact encE_one (xs := [⟨a, x, false⟩]) u (by simpa using hu)
  · simp only [maxLen]; omega
  · omega
  · exact hC.2.2.2.2.2
  intro v2 w5 hown2 hgrow _
  have hb5 : Below w3.heap.size w4 w5 := (Below.refl _ w4).grown hgrow hC.2.2.2.2.2 (fun k hk => own_ne hown k hk)
  have hl2 : xs.length + 1 = ys.length := by rw [Hys.out]; simp
  have hfl : xs.flatMap encE ++ encE ⟨a, x, false⟩ = ys.flatMap encE := by rw [Hys.out]; simp
  rw [hl2, hfl] at hown2
  obtain ⟨A2, cap2, rfl, hcc, _, _⟩ := Rd.of_own encE_len hown2 rfl
  refine ⟨_, fun W' => (Blk W' w.heap.size 26 #[.slice A xs.length cap, .int .i64 bd] ∧ Blk W' (w.heap.size + 1) 34 #[.int .u64 a.h, .int .u64 a.l, .bool a.v] ∧ Blk W' (w.heap.size + 1 + 1) 38 #[.int .u64 x.p.a.h, .int .u64 x.p.a.l, .bool x.p.a.v, .int .i64 x.p.n, .int .i64 x.hop] ∧ Blk W' (w.heap.size + 1 + 1 + 1) 26 #[.slice none 0 0, .int .i64 0] ∧ Kept w W' ∧ w3.heap.size ≤ W'.heap.size) ∧ W'.ownsRow w3.heap.size 48 9 (.slice A2 ys.length cap2) ys.length (ys.flatMap encE), hS, fun w1 w2 h hb => ⟨hS _ _ h.1 hb, own_call h.2 hb⟩, fun _ h => h, fun _ h => h.1, ⟨⟨hC.1.below hb5 (by omega), hC.2.1.below hb5 (by omega), hC.2.2.1.below hb5 (by omega), hC.2.2.2.1.below hb5 (by omega), hC.2.2.2.2.1.out.trans (hb5.mono (by omega)), Nat.le_trans hC.2.2.2.2.2 hb5.size⟩, hown2⟩, ?_⟩
  clear hl2 hfl hown hown2 hgrow BG hC hb5
  go_simp
  apply h_val
  · rfl
  · intro W hC; go_simp; rfl
  go_simp
  refine h_end fun w9 hC9 => ?_
  obtain ⟨⟨b0, b1, b2, b3, hk9, _⟩, ho9⟩ := hC9
  obtain ⟨k3, f3⟩ := b3.facts
  have x3 := b3.lt
  go_wp2_with fail
  refine ret_blk_tmp (t := 26) (cs := #[.slice A2 ys.length cap2, .int .i64 bd]) rfl rfl ?_ hu rfl (by kernel_rfl) rfl ⟨⟨_, rfl, IsQ.own (base := w3.heap.size) (n := ys.length) ?_ rfl⟩, ?_⟩
  · have h := ((b3.put 0 (.slice A2 ys.length cap2) rfl).put 1 (.int .i64 bd) rfl)
    exact h.cast (by simp)
  · exact (own_set (own_set ho9 (by omega) _) (by omega) _)
  · exact ((hk9.set (by omega)).set (by omega))
end Go.Proofs.Ytapiffkeclnbbaa.Q
