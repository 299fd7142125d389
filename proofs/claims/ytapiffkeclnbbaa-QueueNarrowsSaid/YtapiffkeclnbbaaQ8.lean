import Derived.Test.YtapiffkeclnbbaaProg
import Derived.Below
import Derived.Deep.Draws
import Derived.Deep.AppendLies
import Derived.Maps.AppendAt
import Derived.OwnWalk
import Derived.Laws.MakeOwn
import Derived.Laws.OwnMore
import Derived.Deep.OwnRows
import Derived.Tactics
import Derived.Laws.Slices
import Derived.WalkKit
import Derived.KernelRfl
import Derived.RowKit3
import Derived.Deep.LoopGhost
import Derived.Deep.QuietTactic
import Derived.BigQuiet
import Derived.WideLaws
import Derived.Deep.DeepCutAuto
import Derived.Deep.CutBlock
import Derived.Deep.RegionHeld3
import Derived.Deep.RegionWith
import Derived.Deep.RegionLaw
import Derived.Laws.Rows
import Derived.ArgAppend
import Derived.OrdersHeld
import Derived.Laws.BitsLemmas
import Derived.Laws.StructEq
import Derived.RowKit
import Derived.Lib.Hide
import Derived.Lib.SliceRun
import Derived.StillTail
import Derived.Test.YtapiffkeclnbbaaB0
import Derived.Test.YtapiffkeclnbbaaB1
import Derived.Test.YtapiffkeclnbbaaB2
import Derived.Test.YtapiffkeclnbbaaB3
import Derived.Test.YtapiffkeclnbbaaB4
import Derived.Test.YtapiffkeclnbbaaB5
import Derived.Test.YtapiffkeclnbbaaB6
import Derived.Test.YtapiffkeclnbbaaB7
import Derived.Test.YtapiffkeclnbbaaB8
import Derived.Test.YtapiffkeclnbbaaA1
import Derived.Test.YtapiffkeclnbbaaA2
import Derived.Test.YtapiffkeclnbbaaA3
import Derived.Test.YtapiffkeclnbbaaA4
import Derived.Test.YtapiffkeclnbbaaA5
import Derived.Test.YtapiffkeclnbbaaA6
import Derived.Test.YtapiffkeclnbbaaQ1
import Derived.Test.YtapiffkeclnbbaaQ2
import Derived.Test.YtapiffkeclnbbaaQ3
import Derived.Test.YtapiffkeclnbbaaQ4
import Derived.Test.YtapiffkeclnbbaaQ5
import Derived.Test.YtapiffkeclnbbaaQ6
import Derived.Test.YtapiffkeclnbbaaQ7
/-! queue.Pick, where there is one. -/
set_option linter.unusedVariables false
set_option linter.unusedSimpArgs false
namespace Go.Proofs.Ytapiffkeclnbbaa.Q
open Go.RowKit Go.Proofs.Ytapiffkeclnbbaa.B0 Go.Proofs.Ytapiffkeclnbbaa.A2
attribute [local irreducible] wpSq
set_option maxHeartbeats 1000000 in
set_option maxRecDepth 100000 in
theorem queue_Pick_some (v : Value) (xs : List EntryV) (bd : Int) (k : Nat) (e : EntryV) (w : World) (hq : IsQ w v xs bd) (hlen : xs.length ≤ 1024) (hs : saneQ xs bd = true) (hx : xs[k]? = some e) :
    Calls Try.prog 26 #[v, .int .i64 k] w fun r w' => (∃ v', r = .returned (.tuple #[v', vE e, .bool true]) ∧ IsQ w' v' (xs.eraseIdx k) bd) ∧ Kept w w' := by
  have hk : k < xs.length := (List.getElem?_eq_some_iff.1 hx).1
  have he : xs[k] = e := (List.getElem?_eq_some_iff.1 hx).2
  obtain ⟨A, cap, rfl, hc, hr, hty⟩ := hq
  have hu := Try.underlying26
  have hu2 := Try.underlying48
  have hq : IsQ w (.agg #[.slice A xs.length cap, .int .i64 bd]) xs bd := ⟨A, cap, rfl, hc, hr, hty⟩
  have d1 : decide ((k : Int) < 0) = false := decide_eq_false (by omega)
  have d2 : decide ((xs.length : Int) ≤ k) = false := decide_eq_false (by omega)
  have i0 : (0 : Int) ≤ k := by omega
  have i1 : (k : Int) < xs.length := by omega
  have iw : IntKind.i64.wrap ((k : Int) + 1) = (k : Int) + 1 := by simp [IntKind.wrap, IntKind.bits, IntKind.signed]; omega
  have Hx := Lib.hid hx
  clear hx
  go_enter Try.func26, Try.ntmps26
  go_wp2_with fail
  obtain ⟨W, hW⟩ : ∃ W, ((w.alloc (.cells #[.slice A xs.length cap, .int .i64 bd] 26)).alloc (.cells #[.slice none 0 0, .int .i64 0] 26)).alloc (.cells #[.int .u64 0, .int .u64 0, .bool false, .int .u64 0, .int .u64 0, .bool false, .int .i64 0, .int .i64 0, .bool false] 48) = W := ⟨_, rfl⟩
  have B0 : Blk W w.heap.size 26 #[.slice A xs.length cap, .int .i64 bd] := hW ▸ ((Blk.new _ _ _).alloc _).alloc _
  have B1 : Blk W (w.heap.size + 1) 26 #[.slice none 0 0, .int .i64 0] := hW ▸ (Blk.new2 _ _ _ _).alloc _
  have B2 : Blk W (w.heap.size + 1 + 1) 48 #[.int .u64 0, .int .u64 0, .bool false, .int .u64 0, .int .u64 0, .bool false, .int .i64 0, .int .i64 0, .bool false] := hW ▸ Blk.new3 _ _ _ _ _
  have hK : Kept w W := hW ▸ (((Kept.refl w).alloc _).alloc _).alloc _
  rw [hW]
  clear hW
  refine (queue_Sane_is _ _ _ _ (hq.below (Nat.le_refl _) hK.out) hlen hs).mono ?_
  rintro e w1 ⟨rfl, hb1⟩
  have B0 := B0.call hb1.out
  have B1 := B1.call hb1.out
  have B2 := B2.call hb1.out
  have hK := hK.call hb1.out
  clear hb1
  obtain ⟨c0, f0⟩ := B0.facts
  obtain ⟨c1, f1⟩ := B1.facts
  obtain ⟨c2, f2⟩ := B2.facts
  have z1 := B1.lt
  have z2 := B2.lt
  go_wp2_with fail
  clear c0 f0 c1 f1 c2 f2 d1 d2
  obtain ⟨b, off, rfl, hb, hcs⟩ := hr.get hk
  rw [he] at hcs
  clear he
  have hS : Steady (fun W' => Blk W' w.heap.size 26 #[(.slice (some ⟨b, off, none⟩) xs.length cap), .int .i64 bd] ∧ (∃ u0 u1, Blk W' (w.heap.size + 1) 26 #[u0, u1]) ∧ Blk W' (w.heap.size + 1 + 1) 48 #[.int .u64 0, .int .u64 0, .bool false, .int .u64 0, .int .u64 0, .bool false, .int .i64 0, .int .i64 0, .bool false] ∧ Kept w W') := fun w1 w2 h hb => ⟨h.1.call hb, h.2.1.imp fun _ h => h.imp fun _ h => h.call hb, h.2.2.1.call hb, h.2.2.2.call hb⟩
  refine wp_region_sq 16 [(0, false), (1, false), (3, false), (4, false), (5, false), (7, false), (8, false), (10, false), (11, false), (12, false), (13, false), (14, false), (2, true), (6, true), (9, false), (15, true)]
    (fun W' => Blk W' w.heap.size 26 #[(.slice (some ⟨b, off, none⟩) xs.length cap), .int .i64 bd] ∧ (∃ u0 u1, Blk W' (w.heap.size + 1) 26 #[u0, u1]) ∧ Blk W' (w.heap.size + 1 + 1) 48 #[.int .u64 0, .int .u64 0, .bool false, .int .u64 0, .int .u64 0, .bool false, .int .i64 0, .int .i64 0, .bool false] ∧ Kept w W') (by kernel_rfl) (by kernel_rfl) hS ⟨B0.drew, ⟨_, _, B1.drew⟩, B2.drew, hK.drew⟩ ?_
  simp only [List.map_cons, List.map_nil, List.getElem?_toArray, List.getElem?_cons_succ, List.getElem?_cons_zero]
  repeat (first
    | (apply s_val; rfl; (intro W hC; obtain ⟨b0, b1, b2, hk⟩ := hC; have k0 := b0.cell; have cc := fun j u (h : (encE e)[j]? = some u) => (hk.out.cell (p := ⟨b, off + k * 9 + j, none⟩) hb).trans (hcs j u h); have e0 := cc 0 _ rfl; have e1 := cc 1 _ rfl; have e2 := cc 2 _ rfl; have e3 := cc 3 _ rfl; have e4 := cc 4 _ rfl; have e5 := cc 5 _ rfl; have e6 := cc 6 _ rfl; have e7 := cc 7 _ rfl; have e8 := cc 8 _ rfl; rw [Nat.add_zero] at e0; clear b0 b1 b2 hk cc; go_simp; rfl); go_simp)
    | (refine s_off rfl ?_; go_simp))
  have hkk := hk
  apply s_loud (f := 90)
  · rfl
  · intro W hC; go_simp; rfl
  · intro W hC
    exact slices_Clone (some ⟨b, off, none⟩) xs.length cap xs W ((hr.below hC.2.2.2.out).more hC.2.2.2.size) rfl hlen
  rintro W3 hC e3 w3 ⟨v1, rfl, hown, hk3⟩
  have hz : w.heap.size + 1 + 1 < W3.heap.size := hC.2.2.1.lt
  refine ⟨v1, rfl, _, fun W' => (Blk W' w.heap.size 26 #[(.slice (some ⟨b, off, none⟩) xs.length cap), .int .i64 bd] ∧ (∃ u0 u1, Blk W' (w.heap.size + 1) 26 #[u0, u1]) ∧ Blk W' (w.heap.size + 1 + 1) 48 #[.int .u64 0, .int .u64 0, .bool false, .int .u64 0, .int .u64 0, .bool false, .int .i64 0, .int .i64 0, .bool false] ∧ Kept w W') ∧ W'.ownsRow W3.heap.size 48 9 v1 xs.length (xs.flatMap encE) ∧ W3.heap.size ≤ W'.heap.size, hS, ?_, fun _ h => h, fun _ h => h.1, ⟨hS _ _ hC hk3.out, hown, hk3.size⟩, ?_⟩
  · exact fun w1 w2 h hb => ⟨hS _ _ h.1 hb, own_call h.2.1 hb, Nat.le_trans h.2.2 hb.size⟩
  go_simp
  apply s_loud (f := 98)
  · rfl
  · intro W hC; go_simp; rfl
  · intro W hC
    exact slices_Delete xs.length k xs v1 W W3.heap.size hC.2.1 rfl hlen hkk hC.2.2
  rintro W4 hC4 e4 w4 ⟨v2, rfl, hown4, hk4⟩
  have hl2 : xs.length - 1 = (xs.eraseIdx k).length := by rw [List.length_eraseIdx, if_pos hkk]
  obtain ⟨A2, cap2, rfl, hcc, _, hr2⟩ := Rd.of_own encE_len hown4 hl2
  rw [hl2] at hcc hown4
  rw [hl2]
  refine ⟨_, rfl, _, fun W' => (Blk W' w.heap.size 26 #[(.slice (some ⟨b, off, none⟩) xs.length cap), .int .i64 bd] ∧ (∃ u0 u1, Blk W' (w.heap.size + 1) 26 #[u0, u1]) ∧ Blk W' (w.heap.size + 1 + 1) 48 #[.int .u64 0, .int .u64 0, .bool false, .int .u64 0, .int .u64 0, .bool false, .int .i64 0, .int .i64 0, .bool false] ∧ Kept w W') ∧ W'.ownsRow W3.heap.size 48 9 (.slice A2 (xs.eraseIdx k).length cap2) (xs.eraseIdx k).length ((xs.eraseIdx k).flatMap encE), hS, ?_, fun _ h => h, fun _ h => h.1, ⟨⟨hC4.1.1.below hk4 (by omega), hC4.1.2.1.imp fun _ h => h.imp fun _ h => h.below hk4 (by omega), hC4.1.2.2.1.below hk4 (by omega), hC4.1.2.2.2.out.trans (hk4.mono (by omega))⟩, hown4⟩, ?_⟩
  · exact fun w1 w2 h hb => ⟨hS _ _ h.1 hb, own_call h.2 hb⟩
  go_simp
  apply s_val
  · rfl
  · intro W hC; go_simp; rfl
  go_simp
  refine s_store (fun W' => (Blk W' w.heap.size 26 #[(.slice (some ⟨b, off, none⟩) xs.length cap), .int .i64 bd] ∧ Blk W' (w.heap.size + 1) 26 #[.slice A2 (xs.eraseIdx k).length cap2, .int .i64 bd] ∧ Blk W' (w.heap.size + 1 + 1) 48 #[.int .u64 0, .int .u64 0, .bool false, .int .u64 0, .int .u64 0, .bool false, .int .i64 0, .int .i64 0, .bool false] ∧ Kept w W') ∧ W'.ownsRow W3.heap.size 48 9 (.slice A2 (xs.eraseIdx k).length cap2) (xs.eraseIdx k).length ((xs.eraseIdx k).flatMap encE))
    (fun W' => (W'.setCell ⟨w.heap.size + 1, 0, none⟩ (.slice A2 (xs.eraseIdx k).length cap2)).setCell ⟨w.heap.size + 1, 1, none⟩ (.int .i64 bd)) rfl ?_ hS ?_ ?_ ?_ ?_
  · intro W hC
    obtain ⟨u0, u1, b1⟩ := hC.1.2.1
    obtain ⟨k1, f1⟩ := b1.facts
    clear b1 hC
    go_simp
  · exact fun w1 w2 h hb => ⟨⟨h.1.1.call hb, h.1.2.1.call hb, h.1.2.2.1.call hb, h.1.2.2.2.call hb⟩, own_call h.2 hb⟩
  · exact fun w h => ⟨h.1.1, ⟨_, _, h.1.2.1⟩, h.1.2.2⟩
  · intro W hC
    obtain ⟨⟨b0, ⟨u0, u1, b1⟩, b2, hk⟩, hq⟩ := hC
    have hz1 := b2.lt
    exact ⟨⟨(b0.off (by omega) _).off (by omega) _, (b1.put 0 _ rfl).put 1 _ rfl, (b2.off (by omega) _).off (by omega) _, (hk.set (by omega)).set (by omega)⟩, own_set (own_set hq (by omega) _) (by omega) _⟩
  go_simp
  refine s_end fun w9 hC => ?_
  obtain ⟨⟨b0, b1, b2, hk9⟩, ho9⟩ := hC
  obtain ⟨k2, f2⟩ := b2.facts
  have y1 := b1.lt
  have y2 := b2.lt
  go_wp2_with fail
  refine ret_blk_tmp2 (t := 26) (t2 := 48) (cs := #[.slice A2 (xs.eraseIdx k).length cap2, .int .i64 bd]) (cs2 := #[.int .u64 e.a.h, .int .u64 e.a.l, .bool e.a.v, .int .u64 e.x.p.a.h, .int .u64 e.x.p.a.l, .bool e.x.p.a.v, .int .i64 e.x.p.n, .int .i64 e.x.hop, .bool e.stale]) rfl rfl rfl ?_ ?_ hu hu2 rfl rfl (by kernel_rfl) (by kernel_rfl) rfl ⟨⟨_, rfl, IsQ.own (base := W3.heap.size) (n := (xs.eraseIdx k).length) ?_ rfl⟩, ?_⟩
  · exact (((((((((b1.off (by omega) _).off (by omega) _).off (by omega) _).off (by omega) _).off (by omega) _).off (by omega) _).off (by omega) _).off (by omega) _).off (by omega) _)
  · have hb2 := (((((((((b2.put 0 (.int .u64 e.a.h) rfl).put 1 (.int .u64 e.a.l) rfl).put 2 (.bool e.a.v) rfl).put 3 (.int .u64 e.x.p.a.h) rfl).put 4 (.int .u64 e.x.p.a.l) rfl).put 5 (.bool e.x.p.a.v) rfl).put 6 (.int .i64 e.x.p.n) rfl).put 7 (.int .i64 e.x.hop) rfl).put 8 (.bool e.stale) rfl)
    exact hb2.cast (by simp)
  · exact (own_set (own_set (own_set (own_set (own_set (own_set (own_set (own_set (own_set ho9 (by omega) _) (by omega) _) (by omega) _) (by omega) _) (by omega) _) (by omega) _) (by omega) _) (by omega) _) (by omega) _)
  · exact (((((((((hk9.set (by omega)).set (by omega)).set (by omega)).set (by omega)).set (by omega)).set (by omega)).set (by omega)).set (by omega)).set (by omega))
end Go.Proofs.Ytapiffkeclnbbaa.Q
