import Derived.Test.YtapiffkeclnbbaaProg
import Derived.Below
import Derived.Deep.Draws
import Derived.Deep.AppendLies
import Derived.Maps.AppendAt
import Derived.OwnWalk
import Derived.Laws.MakeOwn
import Derived.Laws.OwnMore
import Derived.Deep.OwnRows
import Derived.Tactics
import Derived.Laws.Slices
import Derived.WalkKit
import Derived.KernelRfl
import Derived.RowKit3
import Derived.Deep.LoopGhost
import Derived.Deep.QuietTactic
import Derived.BigQuiet
import Derived.WideLaws
import Derived.Deep.DeepCutAuto
import Derived.Deep.CutBlock
import Derived.Deep.RegionHeld3
import Derived.Deep.RegionWith
import Derived.Deep.RegionLaw
import Derived.Laws.Rows
import Derived.ArgAppend
import Derived.OrdersHeld
import Derived.Laws.BitsLemmas
import Derived.Laws.StructEq
import Derived.RowKit
import Derived.Lib.Hide
import Derived.Lib.SliceRun
import Derived.StillTail
import Derived.Test.YtapiffkeclnbbaaB0
import Derived.Test.YtapiffkeclnbbaaB1
import Derived.Test.YtapiffkeclnbbaaB2
import Derived.Test.YtapiffkeclnbbaaB3
import Derived.Test.YtapiffkeclnbbaaB4
import Derived.Test.YtapiffkeclnbbaaA1
import Derived.Test.YtapiffkeclnbbaaA2
import Derived.Test.YtapiffkeclnbbaaA3
import Derived.Test.YtapiffkeclnbbaaA4
set_option linter.unusedVariables false
set_option linter.unusedSimpArgs false
namespace Go.Proofs.Ytapiffkeclnbbaa.A2
open Go.RowKit Go.Proofs.Ytapiffkeclnbbaa.B0 Go.Proofs.Ytapiffkeclnbbaa.A1
attribute [local go_sem] max2_mx min2_mn maxOf2 minOf2 minOf3
attribute [local go_sem high] eqA34 eqA36 eqA38
attribute [local irreducible] wpQuiet

theorem prefix_Sane_any (p : PrefV) (w : World) : Calls Try.prog 46 #[.agg #[.int .u64 p.a.h, .int .u64 p.a.l, .bool p.a.v, .int .i64 p.n]] w fun e w' => e = .returned (.bool (sanP p)) ∧ Kept w w' := prefix_Sane p w
theorem addr_Sane_is {b : Bool} (a : AddrV) (w : World) (h : saneA a = b) : Calls Try.prog 141 #[.agg #[.int .u64 a.h, .int .u64 a.l, .bool a.v]] w fun e w' => e = .returned (.bool b) ∧ Kept w w' := h ▸ addr_Sane a w

set_option maxHeartbeats 400000 in
set_option maxRecDepth 100000 in
theorem wire_Good (r : RouteV) (w : World) : Calls Try.prog 142 #[.agg #[.int .u64 r.p.a.h, .int .u64 r.p.a.l, .bool r.p.a.v, .int .i64 r.p.n, .int .i64 r.hop]] w fun e w' => e = .returned (.bool (gooR r)) ∧ Kept w w' := by
  obtain ⟨⟨⟨h, l, v⟩, n⟩, o⟩ := r
  have hu := Try.underlying38
  have hu2 := Try.underlying36
  by_cases h0 : 0 ≤ o
  · have d0 : decide (0 ≤ o) = true := decide_eq_true h0
    by_cases h1 : o ≤ 65535
    · have d1 : decide (o ≤ 65535) = true := decide_eq_true h1
      have Hf := Lib.hid (show gooR ⟨⟨⟨h, l, v⟩, n⟩, o⟩ = sanP ⟨⟨h, l, v⟩, n⟩ by simp [gooR, h0, h1])
      clear h0 h1
      go_enter Try.func142, Try.ntmps142
      go_wp2_with fail
      refine (prefix_Sane ⟨⟨_, _, _⟩, _⟩ _).mono ?_
      rintro e w1 ⟨rfl, hb1⟩
      have hK := ((Kept.refl w).alloc _).call hb1.out
      clear hb1
      go_wp2_with fail
      go_ret
      exact ⟨by simp [Hf.out], hK⟩
    · have d1 : decide (o ≤ 65535) = false := decide_eq_false h1
      have Hf := Lib.hid (show gooR ⟨⟨⟨h, l, v⟩, n⟩, o⟩ = false by simp [gooR, h1])
      clear h0 h1
      go_enter Try.func142, Try.ntmps142
      go_wp2_with fail
      go_ret
      exact ⟨by simp [Hf.out], (Kept.refl w).alloc _⟩
  · have d0 : decide (0 ≤ o) = false := decide_eq_false h0
    have Hf := Lib.hid (show gooR ⟨⟨⟨h, l, v⟩, n⟩, o⟩ = false by simp [gooR, h0])
    clear h0
    go_enter Try.func142, Try.ntmps142
    go_wp2_with fail
    go_ret
    exact ⟨by simp [Hf.out], (Kept.refl w).alloc _⟩

theorem wire_Good_is {b : Bool} (r : RouteV) (w : World) (h : gooR r = b) : Calls Try.prog 142 #[.agg #[.int .u64 r.p.a.h, .int .u64 r.p.a.l, .bool r.p.a.v, .int .i64 r.p.n, .int .i64 r.hop]] w fun e w' => e = .returned (.bool b) ∧ Kept w w' := h ▸ wire_Good r w

/-- may an address wait with a route? -/
def fitE (a : AddrV) (x : RouteV) : Bool := saneA a && (gooR x && conP x.p a)

set_option maxHeartbeats 400000 in
set_option maxRecDepth 100000 in
theorem queue_fits (a : AddrV) (x : RouteV) (w : World) : Calls Try.prog 89 #[.agg #[.int .u64 a.h, .int .u64 a.l, .bool a.v], .agg #[.int .u64 x.p.a.h, .int .u64 x.p.a.l, .bool x.p.a.v, .int .i64 x.p.n, .int .i64 x.hop]] w fun e w' => e = .returned (.bool (fitE a x)) ∧ Kept w w' := by
  obtain ⟨h', l', v'⟩ := a
  obtain ⟨⟨⟨h, l, v⟩, n⟩, o⟩ := x
  have hu := Try.underlying38
  have hu2 := Try.underlying36
  have hu3 := Try.underlying34
  cases hs : saneA ⟨h', l', v'⟩ with
  | false =>
    have Hf := Lib.hid (show fitE ⟨h', l', v'⟩ ⟨⟨⟨h, l, v⟩, n⟩, o⟩ = false by simp [fitE, hs])
    have Hs := Lib.hid hs
    clear hs
    go_enter Try.func89, Try.ntmps89
    go_wp2_with fail
    refine (addr_Sane_is ⟨_, _, _⟩ _ Hs.out).mono ?_
    rintro e w1 ⟨rfl, hb1⟩
    have hK := (((Kept.refl w).alloc _).alloc _).call hb1.out
    clear hb1
    go_wp2_with fail
    go_ret
    exact ⟨by simp [Hf.out], hK⟩
  | true =>
    cases hg : gooR ⟨⟨⟨h, l, v⟩, n⟩, o⟩ with
    | false =>
      have Hf := Lib.hid (show fitE ⟨h', l', v'⟩ ⟨⟨⟨h, l, v⟩, n⟩, o⟩ = false by simp [fitE, hs, hg])
      have Hs := Lib.hid hs
      have Hg := Lib.hid hg
      clear hs hg
      go_enter Try.func89, Try.ntmps89
      go_wp2_with fail
      refine (addr_Sane_is ⟨_, _, _⟩ _ Hs.out).mono ?_
      rintro e w1 ⟨rfl, hb1⟩
      have hK := (((Kept.refl w).alloc _).alloc _).call hb1.out
      have B0 := ((Blk.new w _ _).alloc _).call hb1.out
      have B1 := (Blk.new2 w _ _ _).call hb1.out
      obtain ⟨c1, f1⟩ := B1.facts
      clear hb1
      go_wp2_with fail
      refine (wire_Good_is ⟨⟨⟨_, _, _⟩, _⟩, _⟩ _ Hg.out).mono ?_
      rintro e w2 ⟨rfl, hb2⟩
      have hK2 := hK.call hb2.out
      clear hb2 c1 f1
      go_wp2_with fail
      go_ret
      exact ⟨by simp [Hf.out], hK2⟩
    | true =>
      have Hf := Lib.hid (show fitE ⟨h', l', v'⟩ ⟨⟨⟨h, l, v⟩, n⟩, o⟩ = conP ⟨⟨h, l, v⟩, n⟩ ⟨h', l', v'⟩ by simp [fitE, hs, hg])
      have Hs := Lib.hid hs
      have Hg := Lib.hid hg
      clear hs hg
      go_enter Try.func89, Try.ntmps89
      go_wp2_with fail
      refine (addr_Sane_is ⟨_, _, _⟩ _ Hs.out).mono ?_
      rintro e w1 ⟨rfl, hb1⟩
      have hK := (((Kept.refl w).alloc _).alloc _).call hb1.out
      have B0 := ((Blk.new w _ _).alloc _).call hb1.out
      have B1 := (Blk.new2 w _ _ _).call hb1.out
      obtain ⟨c1, f1⟩ := B1.facts
      clear hb1
      go_wp2_with fail
      refine (wire_Good_is ⟨⟨⟨_, _, _⟩, _⟩, _⟩ _ Hg.out).mono ?_
      rintro e w2 ⟨rfl, hb2⟩
      have hK2 := hK.call hb2.out
      have B0' := B0.call hb2.out
      have B1' := B1.call hb2.out
      clear hb2 c1 f1
      obtain ⟨c0, f0⟩ := B0'.facts
      obtain ⟨c1, f1⟩ := B1'.facts
      go_wp2_with fail
      refine (prefix_Contains ⟨⟨_, _, _⟩, _⟩ ⟨_, _, _⟩ _).mono ?_
      rintro e w3 ⟨rfl, hb3⟩
      have hK3 := hK2.call hb3.out
      clear hb3 c0 f0 c1 f1
      go_wp2_with fail
      go_ret
      exact ⟨by simp [Hf.out], hK3⟩

/-- all digits of an address -/
def whoP (a : AddrV) : PrefV := ofP a (wid a.v)

set_option maxHeartbeats 400000 in
set_option maxRecDepth 100000 in
theorem queue_whole (a : AddrV) (w : World) : Calls Try.prog 94 #[.agg #[.int .u64 a.h, .int .u64 a.l, .bool a.v]] w fun e w' => e = .returned (.agg #[.int .u64 (whoP a).a.h, .int .u64 (whoP a).a.l, .bool (whoP a).a.v, .int .i64 (whoP a).n]) ∧ Kept w w' := by
  obtain ⟨h, l, v⟩ := a
  have hu := Try.underlying34
  have hu2 := Try.underlying36
  go_enter Try.func94, Try.ntmps94
  go_wp2_with fail
  obtain ⟨W, hW⟩ : ∃ W, (w.alloc (.cells #[.int .u64 h, .int .u64 l, .bool v] 34)).alloc (.cells #[.int .u64 0, .int .u64 0, .bool false, .int .i64 0] 36) = W := ⟨_, rfl⟩
  have B0 : Blk W w.heap.size 34 #[.int .u64 h, .int .u64 l, .bool v] := hW ▸ (Blk.new _ _ _).alloc _
  have B1 : Blk W (w.heap.size + 1) 36 #[.int .u64 0, .int .u64 0, .bool false, .int .i64 0] := hW ▸ Blk.new2 _ _ _ _
  have hK : Kept w W := hW ▸ ((Kept.refl _).alloc _).alloc _
  rw [hW]
  clear hW
  refine wp_region_qtail 5 (C := fun W' => Blk W' (w.heap.size) 34 #[.int .u64 h, .int .u64 l, .bool v] ∧ Blk W' (w.heap.size + 1) 36 #[.int .u64 0, .int .u64 0, .bool false, .int .i64 0] ∧ Kept w W') (by kernel_rfl) (by kernel_rfl) ⟨B0.drew, B1.drew, hK.drew⟩ ?_
  go_simp
  repeat (first
    | (apply q_val; rfl; (intro W hC; obtain ⟨b0, b1, hk⟩ := hC; have k0 := b0.cell; have k1 := b1.cell; clear b0 b1 hk; go_simp; rfl); go_simp)
    | (refine q_off rfl ?_; go_simp)
    | (apply q_call (f := 101); rfl; (intro W hC; go_simp; rfl); (intro W hC; (with_reducible refine (addr_Width' _ _).mono ?_); rintro e w1 ⟨rfl, hb1⟩; refine ⟨?_, hC.1.call hb1.out, hC.2.1.call hb1.out, hC.2.2.call hb1.out⟩; rfl); go_simp)
    | (apply q_call (f := 75); rfl; (intro W hC; go_simp; rfl); (intro W hC; (with_reducible refine (prefix_Of ⟨_, _, _⟩ _ _).mono ?_); rintro e w1 ⟨rfl, hb1⟩; refine ⟨?_, hC.1.call hb1.out, hC.2.1.call hb1.out, hC.2.2.call hb1.out⟩; rfl); go_simp))
  refine q_end ?_
  intro W1 B0_ B1_ hK1
  obtain ⟨c1, f1⟩ := B1_.facts
  go_wp2
  exact ret_blk rfl rfl ((((B1_.put 0 _ rfl).put 1 _ rfl).put 2 _ rfl).put 3 _ rfl) hu2 rfl (by kernel_rfl) rfl ⟨rfl, ((((hK1.set (by omega)).set (by omega)).set (by omega)).set (by omega))⟩
end Go.Proofs.Ytapiffkeclnbbaa.A2
