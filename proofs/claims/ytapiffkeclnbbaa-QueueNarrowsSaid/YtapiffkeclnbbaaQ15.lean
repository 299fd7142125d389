import Derived.Test.YtapiffkeclnbbaaProg
import Derived.Below
import Derived.Deep.Draws
import Derived.Deep.AppendLies
import Derived.Maps.AppendAt
import Derived.OwnWalk
import Derived.Laws.MakeOwn
import Derived.Laws.OwnMore
import Derived.Deep.OwnRows
import Derived.Tactics
import Derived.Laws.Slices
import Derived.WalkKit
import Derived.KernelRfl
import Derived.RowKit3
import Derived.Deep.LoopGhost
import Derived.Deep.QuietTactic
import Derived.BigQuiet
import Derived.WideLaws
import Derived.Deep.DeepCutAuto
import Derived.Deep.CutBlock
import Derived.Deep.RegionHeld3
import Derived.Deep.RegionWith
import Derived.Deep.RegionLaw
import Derived.Laws.Rows
import Derived.ArgAppend
import Derived.OrdersHeld
import Derived.Laws.BitsLemmas
import Derived.Laws.StructEq
import Derived.RowKit
import Derived.Lib.Hide
import Derived.Lib.SliceRun
import Derived.StillTail
import Derived.Test.YtapiffkeclnbbaaB0
import Derived.Test.YtapiffkeclnbbaaB1
import Derived.Test.YtapiffkeclnbbaaB2
import Derived.Test.YtapiffkeclnbbaaB3
import Derived.Test.YtapiffkeclnbbaaB4
import Derived.Test.YtapiffkeclnbbaaB5
import Derived.Test.YtapiffkeclnbbaaB6
import Derived.Test.YtapiffkeclnbbaaB7
import Derived.Test.YtapiffkeclnbbaaB8
import Derived.Test.YtapiffkeclnbbaaA1
import Derived.Test.YtapiffkeclnbbaaA2
import Derived.Test.YtapiffkeclnbbaaA3
import Derived.Test.YtapiffkeclnbbaaA4
import Derived.Test.YtapiffkeclnbbaaA5
import Derived.Test.YtapiffkeclnbbaaA6
import Derived.Test.YtapiffkeclnbbaaQ1
import Derived.Test.YtapiffkeclnbbaaQ2
import Derived.Test.YtapiffkeclnbbaaQ3
import Derived.Test.YtapiffkeclnbbaaQ4
import Derived.Test.YtapiffkeclnbbaaQ5
import Derived.Test.YtapiffkeclnbbaaQ6
import Derived.Test.YtapiffkeclnbbaaQ7
import Derived.Test.YtapiffkeclnbbaaQ8
import Derived.Test.YtapiffkeclnbbaaQ9
import Derived.Test.YtapiffkeclnbbaaQ10
import Derived.Test.YtapiffkeclnbbaaQ11
import Derived.Test.YtapiffkeclnbbaaQ12
import Derived.Test.YtapiffkeclnbbaaQ13
/-! kedgelaw14.theirs. -/
set_option linter.unusedVariables false
set_option linter.unusedSimpArgs false
namespace Go.Proofs.Ytapiffkeclnbbaa.Q
open Go.RowKit Go.Proofs.Ytapiffkeclnbbaa.B0 Go.Proofs.Ytapiffkeclnbbaa.A2
attribute [local irreducible] wpHq
theorem info51 : (Try.prog.info? 51).map (fun i => (i.zero, i.size, i.bytes)) = some (some zE, 9, 72) := by kernel_rfl
theorem und28 : Try.prog.underlying 28 = some (.slice 51) := by kernel_rfl
set_option maxHeartbeats 1000000 in
set_option maxRecDepth 100000 in
theorem law_theirs (A : Option Addr) (cap : Nat) (xs : List EntryV) (bd : Int) (w : World) (hr : Rd w w.heap.size 9 encE A xs) (hc : xs.length ≤ cap) (hlen : xs.length ≤ 1024) :
    Calls Try.prog 29 #[.agg #[.slice A xs.length cap, .int .i64 bd]] w fun e w' => (∃ A' cap', e = .returned (.agg #[.slice A' xs.length cap', .int .i64 bd]) ∧ xs.length ≤ cap' ∧ Rd w' w'.heap.size 9 encE A' xs) ∧ Kept w w' := by
  have hu := Try.underlying30
  have hu2 := Try.underlying34
  have hu3 := Try.underlying38
  have hu4 := Try.underlying48
  have hu5 := Try.underlying51
  have hu6 := Try.underlying26
  go_enter Try.func29, Try.ntmps29
  go_wp2_with fail
  go_loopw [4] (fun i wr => ∃ (k : Nat) (Ak : Option Addr) (ck : Nat), k ≤ xs.length ∧ i = .int .i64 k ∧ wr.ownsRow (w.heap.size + 1 + 1 + 1) 51 9 (.slice Ak k ck) k ((xs.take k).flatMap encE) ∧ Blk wr w.heap.size 26 #[.slice A xs.length cap, .int .i64 bd] ∧ Blk wr (w.heap.size + 1) 30 #[.slice none 0 0, .int .i64 0] ∧ Blk wr (w.heap.size + 1 + 1) 30 #[.slice Ak k ck, .int .i64 bd] ∧ Kept w wr ∧ w.heap.size + 1 + 1 + 1 ≤ wr.heap.size)
    (fun i _ => xs.length - (intOf i).toNat)
  case atStart =>
    refine ⟨0, none, 0, Nat.zero_le _, rfl, ⟨by simp, .inl ⟨rfl, rfl⟩⟩, ?_, ?_, ?_, ?_, ?_⟩
    · exact ((Blk.new _ _ _).alloc _).alloc _
    · exact (Blk.new2 _ _ _ _).alloc _
    · exact Blk.new3 _ _ _ _ _
    · exact (((Kept.refl w).alloc _).alloc _).alloc _
    · simp
  case round =>
    obtain ⟨k, Ak, ck, hk, rfl, ho, B0, B1, B2, hK, hz⟩ := hrel
    by_cases hlt : k < xs.length
    · obtain ⟨b, off, rfl, hb, hcs⟩ := hr.get hlt
      obtain ⟨e, he⟩ : ∃ e, xs[k] = e := ⟨_, rfl⟩
      rw [he] at hcs
      have Hx : Hid (xs[k]? = some e) := Lib.hid (by rw [List.getElem?_eq_getElem hlt, he])
      clear he
      have Ho := Lib.hid ho
      clear ho
      have hk0 : (0 : Int) ≤ (k : Int) := by omega
      have hkl : (k : Int) < (xs.length : Int) := by omega
      have hkw : IntKind.i64.wrap ((k : Int) + 1) = (k : Int) + 1 := by simp [IntKind.wrap, IntKind.bits, IntKind.signed]; omega
      obtain ⟨c0, f0⟩ := B0.facts
      go_wp2_with fail
      clear c0 f0
      have hS : Steady (fun W' => Blk W' w.heap.size 26 #[.slice (some ⟨b, off, none⟩) xs.length cap, .int .i64 bd] ∧ Blk W' (w.heap.size + 1) 30 #[.slice none 0 0, .int .i64 0] ∧ Blk W' (w.heap.size + 1 + 1) 30 #[.slice Ak k ck, .int .i64 bd] ∧ Kept w W' ∧ w.heap.size + 1 + 1 + 1 ≤ W'.heap.size) := fun w1 w2 h hb => ⟨h.1.call hb, h.2.1.call hb, h.2.2.1.call hb, h.2.2.2.1.call hb, Nat.le_trans h.2.2.2.2 hb.size⟩
      refine wp_region_hk 23 [(0, 0), (1, 0), (2, 0), (3, 0), (4, 0), (5, 0), (6, 0), (7, 0), (8, 0), (9, 0), (10, 0), (11, 0), (12, 0), (13, 0), (14, 0), (15, 0), (16, 0), (17, 0), (18, 0), (19, 0), (20, 0), (21, 2), (22, 3)] [21] (w.heap.size + 1 + 1 + 1) (fun W' => Blk W' w.heap.size 26 #[.slice (some ⟨b, off, none⟩) xs.length cap, .int .i64 bd] ∧ Blk W' (w.heap.size + 1) 30 #[.slice none 0 0, .int .i64 0] ∧ Blk W' (w.heap.size + 1 + 1) 30 #[.slice Ak k ck, .int .i64 bd] ∧ Kept w W' ∧ w.heap.size + 1 + 1 + 1 ≤ W'.heap.size) (fun W' => (Blk W' w.heap.size 26 #[.slice (some ⟨b, off, none⟩) xs.length cap, .int .i64 bd] ∧ Blk W' (w.heap.size + 1) 30 #[.slice none 0 0, .int .i64 0] ∧ Blk W' (w.heap.size + 1 + 1) 30 #[.slice Ak k ck, .int .i64 bd] ∧ Kept w W' ∧ w.heap.size + 1 + 1 + 1 ≤ W'.heap.size) ∧ W'.ownsRow (w.heap.size + 1 + 1 + 1) 51 9 (.slice Ak k ck) k ((xs.take k).flatMap encE)) (by kernel_rfl) (by kernel_rfl) hS (fun w1 w2 h hb => ⟨hS _ _ h.1 hb, own_call h.2 hb⟩) (fun _ h => h.1) (fun W h => h.2.2.2.2) ⟨⟨B0.drew, B1.drew, B2.drew, hK.drew, hz⟩, Ho.out⟩ ?_
      simp only [List.map_cons, List.map_nil, List.getElem?_toArray, List.getElem?_cons_succ, List.getElem?_cons_zero]
      clear B0 B1 B2
      repeat (first
        | (apply h_val; rfl; (intro W hC; obtain ⟨b0, b1, b2, hk, _⟩ := hC; have k0 := b0.cell; have k2 := b2.cell; have cc := fun j u (h : (encE e)[j]? = some u) => (hk.out.cell (p := ⟨b, off + k * 9 + j, none⟩) hb).trans (hcs j u h); have e0 := cc 0 _ rfl; have e1 := cc 1 _ rfl; have e2 := cc 2 _ rfl; have e3 := cc 3 _ rfl; have e4 := cc 4 _ rfl; have e5 := cc 5 _ rfl; have e6 := cc 6 _ rfl; have e7 := cc 7 _ rfl; have e8 := cc 8 _ rfl; rw [Nat.add_zero] at e0; clear b0 b1 b2 hk cc; go_simp; rfl); go_simp))
      refine h_alloc (m := fun g => .slice (some ⟨g, 0, none⟩) 1 1) (z := #[.int .u64 e.a.h, .int .u64 e.a.l, .bool e.a.v, .int .u64 e.x.p.a.h, .int .u64 e.x.p.a.l, .bool e.x.p.a.v, .int .i64 e.x.p.n, .int .i64 e.x.hop, .bool e.stale]) (t := 51) rfl ?_ (by intro w; go_simp) ?_
      · intro j hj
        rw [List.mem_singleton.1 hj]
        exact ⟨_, rfl, rfl, (fun g => .slice (some ⟨g, 0, none⟩) 1 1), #[.int .u64 e.a.h, .int .u64 e.a.l, .bool e.a.v, .int .u64 e.x.p.a.h, .int .u64 e.x.p.a.l, .bool e.x.p.a.v, .int .i64 e.x.p.n, .int .i64 e.x.hop, .bool e.stale], 51, by intro w; go_simp⟩
      intro g hg
      go_simp
      refine h_alone rfl ?_
      rintro w4 ⟨⟨hC, hown⟩, BG⟩
      obtain ⟨i0, hi, hz0, hz1, hz2⟩ := info_parts info51
      refine wp_append_own w4 (.tmp 16) (.tmp 36) 28 rfl (w.heap.size + 1 + 1 + 1) 51 i0 zE 9 72 und28 hi hz0 hz1 hz2 rfl (by omega) (.slice Ak k ck) k ((xs.take k).flatMap encE) (by simp [Act.eval]) hown ⟨g, 0, none⟩ 1 1 (encE e) (by simp [Act.eval]) rfl ?_ ?_ ?_ ?_ ?_ ?_
      · intro j u hj
        rw [Addr.add_lit, BG.cell, Nat.zero_add]
        simpa [encE] using hj
      · intro u hu
        exact encE_one (xs := [e]) u (by simpa using hu)
      · simp only [maxLen]; omega
      · omega
      · exact hC.2.2.2.2
      intro v2 w5 hown2 hgrow _
      have hb5 : Below (w.heap.size + 1 + 1 + 1) w4 w5 := (Below.refl _ w4).grown hgrow hC.2.2.2.2 (fun k hk => own_ne hown k hk)
      have hfl : (xs.take k).flatMap encE ++ encE e = (xs.take (k + 1)).flatMap encE := by rw [take_succ_get Hx.out]; simp
      rw [hfl] at hown2
      obtain ⟨A2, cap2, rfl, hcc, _, _⟩ := Rd.of_own encE_len hown2 (by simp; omega)
      refine ⟨_, fun W' => (Blk W' w.heap.size 26 #[.slice (some ⟨b, off, none⟩) xs.length cap, .int .i64 bd] ∧ Blk W' (w.heap.size + 1) 30 #[.slice none 0 0, .int .i64 0] ∧ Blk W' (w.heap.size + 1 + 1) 30 #[.slice Ak k ck, .int .i64 bd] ∧ Kept w W' ∧ w.heap.size + 1 + 1 + 1 ≤ W'.heap.size) ∧ W'.ownsRow (w.heap.size + 1 + 1 + 1) 51 9 (.slice A2 (k + 1) cap2) (k + 1) ((xs.take (k + 1)).flatMap encE), hS, fun w1 w2 h hb => ⟨hS _ _ h.1 hb, own_call h.2 hb⟩, fun _ h => h, fun _ h => h.1, ⟨⟨hC.1.below hb5 (by omega), hC.2.1.below hb5 (by omega), hC.2.2.1.below hb5 (by omega), hC.2.2.2.1.out.trans (hb5.mono (by omega)), Nat.le_trans hC.2.2.2.2 hb5.size⟩, hown2⟩, ?_⟩
      clear hfl hown hown2 hgrow BG hC hb5
      go_simp
      refine h_end fun w9 hC9 => ?_
      obtain ⟨⟨b0, b1, b2, hk9, hz9⟩, ho9⟩ := hC9
      have Ho9 := Lib.hid ho9
      clear ho9
      obtain ⟨k2, f2⟩ := b2.facts
      have x2 := b2.lt
      have x1 := b1.lt
      have x0 := b0.lt
      go_wp2_with fail
      refine ⟨⟨k + 1, A2, cap2, by omega, by simp, own_set Ho9.out (by omega) _, b0.off (by omega) _, b1.off (by omega) _, ?_, hk9.set (by omega), by simpa [World.setCell] using hz9⟩, by simp [intOf]; omega⟩
      have h := b2.put 0 (.slice A2 (k + 1) cap2) rfl
      exact h.cast (by simp)
    · have hk2 : k = xs.length := by omega
      have ho2 : wr.ownsRow (w.heap.size + 1 + 1 + 1) 51 9 (.slice Ak k ck) xs.length (xs.flatMap encE) := by
        have := ho
        rw [hk2, List.take_length] at this
        rw [hk2]
        exact this
      clear ho
      have Ho2 := Lib.hid ho2
      clear ho2
      have d9 : decide ((k : Int) < (xs.length : Int)) = false := decide_eq_false (by omega)
      have Hk2 := Lib.hid hk2
      clear hk2
      have x2 := B2.lt
      have x1 := B1.lt
      obtain ⟨c0, f0⟩ := B0.facts
      obtain ⟨c1, f1⟩ := B1.facts
      obtain ⟨c2, f2⟩ := B2.facts
      go_wp2_with fail
      have hz1 : w.heap.size + 1 < w.heap.size + 1 + 1 + 1 := by omega
      obtain ⟨A3, cap3, ev, hc3, _, hr3⟩ := Rd.of_own encE_len (own_set (own_set Ho2.out hz1 (j := 0) (.slice Ak k ck)) hz1 (j := 1) (.int .i64 bd)) rfl
      refine ret_blk (t := 30) (cs := #[.slice Ak k ck, .int .i64 bd]) rfl rfl ?_ hu rfl (by kernel_rfl) rfl ⟨⟨A3, cap3, by rw [ev], hc3, hr3⟩, ?_⟩
      · have h := ((B1.put 0 (.slice Ak k ck) rfl).put 1 (.int .i64 bd) rfl)
        exact h.cast (by simp)
      · exact ((hK.set (by omega)).set (by omega))
end Go.Proofs.Ytapiffkeclnbbaa.Q
