import Derived.Test.YtapiffkeclnbbaaProg
import Derived.Below
import Derived.Deep.Draws
import Derived.Deep.AppendLies
import Derived.Maps.AppendAt
import Derived.OwnWalk
import Derived.Laws.MakeOwn
import Derived.Laws.OwnMore
import Derived.Deep.OwnRows
import Derived.Tactics
import Derived.Laws.Slices
import Derived.WalkKit
import Derived.KernelRfl
import Derived.RowKit3
import Derived.Deep.LoopGhost
import Derived.Deep.QuietTactic
import Derived.BigQuiet
import Derived.WideLaws
import Derived.Deep.DeepCutAuto
import Derived.Deep.CutBlock
import Derived.Deep.RegionHeld3
import Derived.Deep.RegionWith
import Derived.Deep.RegionLaw
import Derived.Laws.Rows
import Derived.ArgAppend
import Derived.OrdersHeld
import Derived.Laws.BitsLemmas
import Derived.Laws.StructEq
import Derived.RowKit
import Derived.Lib.Hide
import Derived.Lib.SliceRun
import Derived.StillTail
import Derived.Test.YtapiffkeclnbbaaB0
import Derived.Test.YtapiffkeclnbbaaB1
import Derived.Test.YtapiffkeclnbbaaB2
import Derived.Test.YtapiffkeclnbbaaA1
import Derived.Test.YtapiffkeclnbbaaA2
set_option linter.unusedVariables false
set_option linter.unusedSimpArgs false
namespace Go.Proofs.Ytapiffkeclnbbaa.A2
open Go.RowKit Go.Proofs.Ytapiffkeclnbbaa.B0 Go.Proofs.Ytapiffkeclnbbaa.A1
attribute [local go_sem] max2_mx min2_mn maxOf2 minOf2 minOf3
attribute [local go_sem high] eqA34 eqA36 eqA38
attribute [local irreducible] wpQuiet

set_option maxHeartbeats 400000 in
set_option maxRecDepth 100000 in
theorem addr_Set_none (h l : Int) (v : Bool) (i x : Int) (w : World) (hd : isD v i = false) : Calls Try.prog 122 #[.agg #[.int .u64 h, .int .u64 l, .bool v], .int .i64 i, .int .i64 x] w fun e w' => e = .returned (.agg #[.int .u64 (readH h v), .int .u64 (readL l v), .bool v]) ∧ Kept w w' := by
  have hu := Try.underlying34
  have hu2 := Try.underlying207
  go_enter Try.func122, Try.ntmps122
  go_wp2_with fail
  refine (addr_read _ _ _ _).mono ?_
  rintro e w1 ⟨rfl, hb1⟩
  have B0 := ((Blk.new w _ _).alloc _).call hb1.out
  have B1 := (Blk.new2 w _ _ _).call hb1.out
  have hK := (((Kept.refl w).alloc _).alloc _).call hb1.out
  have hz : w.heap.size + 1 + 1 ≤ w1.heap.size := by simpa using hb1.size
  clear hb1
  have F0 := fun o => (B0.alloc o).facts
  simp only [forall_and] at F0
  obtain ⟨c0, f0⟩ := F0
  go_wp2_with fail
  refine (addr_is _ _ _ _ _).mono ?_
  rintro e w2 ⟨rfl, hb2⟩
  rw [hd]
  have BW := (Blk.new w1 _ _).call hb2.out
  have B0' := (B0.alloc _).call hb2.out
  have B1' := (B1.alloc _).call hb2.out
  have hK2 := (hK.alloc _).call hb2.out
  clear hb2 c0 f0 hK B0 B1
  obtain ⟨c0, f0⟩ := B0'.facts
  obtain ⟨cw, fw⟩ := BW.facts
  go_wp2_with fail
  refine (addr_of _ _ _ _).mono ?_
  rintro e w3 ⟨rfl, hb3⟩
  have B1 := B1'.call hb3.out
  have hK3 := hK2.call hb3.out
  obtain ⟨c1, f1⟩ := B1.facts
  clear hb3
  go_wp2_with fail
  exact ret_blk rfl rfl (((B1.put 0 _ rfl).put 1 _ rfl).put 2 _ rfl) hu rfl (by kernel_rfl) rfl ⟨rfl, ((hK3.set (by omega)).set (by omega)).set (by omega)⟩

theorem addr_Set (a : AddrV) (i x : Int) (w : World) : Calls Try.prog 122 #[.agg #[.int .u64 a.h, .int .u64 a.l, .bool a.v], .int .i64 i, .int .i64 x] w fun e w' => e = .returned (.agg #[.int .u64 (setA a i x).h, .int .u64 (setA a i x).l, .bool (setA a i x).v]) ∧ Kept w w' := by
  obtain ⟨h, l, v⟩ := a
  have ho := and_one64 x
  cases hd : isD v i with
  | false =>
    have e : setA ⟨h, l, v⟩ i x = ⟨readH h v, readL l v, v⟩ := by simp [setA, hd]
    rw [e]
    exact addr_Set_none h l v i x w hd
  | true =>
    by_cases h64 : i < 64
    · by_cases hx : x % 2 = 1
      · have e : setA ⟨h, l, v⟩ i x = ⟨setW (readH h v) (IntKind.u64.wrap (2 ^ (63 - i).toNat)) true, readL l v, v⟩ := by simp [setA, hd, h64, hx]
        rw [e]
        exact addr_Set_0_1 h l v i x w hd h64 (by rw [ho]; exact decide_eq_true hx)
      · have e : setA ⟨h, l, v⟩ i x = ⟨setW (readH h v) (IntKind.u64.wrap (2 ^ (63 - i).toNat)) false, readL l v, v⟩ := by simp [setA, hd, h64, hx]
        rw [e]
        exact addr_Set_0_0 h l v i x w hd h64 (by rw [ho]; exact decide_eq_false hx)
    · by_cases hx : x % 2 = 1
      · have e : setA ⟨h, l, v⟩ i x = ⟨readH h v, setW (readL l v) (IntKind.u64.wrap (2 ^ (63 - (i - 64)).toNat)) true, v⟩ := by simp [setA, hd, h64, hx]
        rw [e]
        exact addr_Set_1_1 h l v i x w hd h64 (by rw [ho]; exact decide_eq_true hx)
      · have e : setA ⟨h, l, v⟩ i x = ⟨readH h v, setW (readL l v) (IntKind.u64.wrap (2 ^ (63 - (i - 64)).toNat)) false, v⟩ := by simp [setA, hd, h64, hx]
        rw [e]
        exact addr_Set_1_0 h l v i x w hd h64 (by rw [ho]; exact decide_eq_false hx)

/-- the first digits of an address -/
def ofP (a : AddrV) (n : Int) : PrefV := ⟨maskA a (mx 0 (mn n (wid a.v))), mx 0 (mn n (wid a.v))⟩
set_option maxHeartbeats 400000 in
set_option maxRecDepth 100000 in
theorem prefix_Of (a : AddrV) (n : Int) (w : World) : Calls Try.prog 75 #[.agg #[.int .u64 a.h, .int .u64 a.l, .bool a.v], .int .i64 n] w fun e w' => e = .returned (.agg #[.int .u64 (ofP a n).a.h, .int .u64 (ofP a n).a.l, .bool (ofP a n).a.v, .int .i64 (ofP a n).n]) ∧ Kept w w' := by
  obtain ⟨h, l, v⟩ := a
  have hu := Try.underlying34
  have hu2 := Try.underlying36
  go_enter Try.func75, Try.ntmps75
  go_wp2_with fail
  refine (addr_Width _ _).mono ?_
  rintro e w' ⟨rfl, rfl⟩
  go_wp2_with fail
  refine (addr_Mask ⟨_, _, _⟩ _ _).mono ?_
  rintro e w1 ⟨rfl, hb1⟩
  have B1 := (Blk.new2 w _ _ _).call hb1.out
  have hK := (((Kept.refl w).alloc _).alloc _).call hb1.out
  obtain ⟨c1, f1⟩ := B1.facts
  clear hb1
  go_wp2_with fail
  exact ret_blk rfl rfl ((((B1.put 0 _ rfl).put 1 _ rfl).put 2 _ rfl).put 3 _ rfl) hu2 rfl (by kernel_rfl) rfl ⟨rfl, (((hK.set (by omega)).set (by omega)).set (by omega)).set (by omega)⟩

theorem ofP_v (a : AddrV) (n : Int) : (ofP a n).a.v = a.v := rfl

/-- '==' as the walk spells it -/
def eqA (a b : AddrV) : Bool := a.h == b.h && (a.l == b.l && a.v == b.v)
def eqP (p q : PrefV) : Bool := (p.a.h == q.a.h && (p.a.l == q.a.l && p.a.v == q.a.v)) && p.n == q.n
def eqR (x y : RouteV) : Bool := ((x.p.a.h == y.p.a.h && (x.p.a.l == y.p.a.l && x.p.a.v == y.p.a.v)) && x.p.n == y.p.n) && x.hop == y.hop
theorem eqP_v {p q : PrefV} (h : p.a.v = q.a.v) : eqP p q = ((p.a.h == q.a.h && p.a.l == q.a.l) && p.n == q.n) := by simp [eqP, h]
/-- may a prefix be? -/
def sanP (p : PrefV) : Bool := eqP p (ofP p.a p.n)
/-- has an address these first digits? -/
def conP (p : PrefV) (a : AddrV) : Bool := sanP p && eqP p (ofP a p.n)

set_option maxHeartbeats 400000 in
set_option maxRecDepth 100000 in
theorem prefix_Sane (p : PrefV) (w : World) : Calls Try.prog 46 #[.agg #[.int .u64 p.a.h, .int .u64 p.a.l, .bool p.a.v, .int .i64 p.n]] w fun e w' => e = .returned (.bool (sanP p)) ∧ Kept w w' := by
  obtain ⟨⟨h, l, v⟩, n⟩ := p
  have hu := Try.underlying34
  have hu2 := Try.underlying36
  go_enter Try.func46, Try.ntmps46
  go_wp2_with fail
  obtain ⟨W, hW⟩ : ∃ W, w.alloc (.cells #[.int .u64 h, .int .u64 l, .bool v, .int .i64 n] 36) = W := ⟨_, rfl⟩
  have B0 : Blk W w.heap.size 36 #[.int .u64 h, .int .u64 l, .bool v, .int .i64 n] := hW ▸ Blk.new _ _ _
  have hK : Kept w W := hW ▸ (Kept.refl _).alloc _
  rw [hW]
  clear hW
  have cB0_0 := B0.cell 0
  have cB0_1 := B0.cell 1
  have cB0_2 := B0.cell 2
  have cB0_3 := B0.cell 3
  go_region_held3 (fun W' => W'.cell? ⟨w.heap.size, 0, none⟩ = some (.int .u64 h) ∧ W'.cell? ⟨w.heap.size, 1, none⟩ = some (.int .u64 l) ∧ W'.cell? ⟨w.heap.size, 2, none⟩ = some (.bool v) ∧ W'.cell? ⟨w.heap.size, 3, none⟩ = some (.int .i64 n)) (first | go_keep | assumption)
    (first
        | (go_at_call 75; refine (prefix_Of ⟨_, _, _⟩ _ _).mono ?_; rintro e w1 ⟨rfl, hb1⟩; have B0_1 := B0.drew.call hb1.out; have hK1 := hK.drew.call hb1.out; clear hb1; have s1 : w1.cell? ⟨w.heap.size, 0, none⟩ = some (.int .u64 h) ∧ w1.cell? ⟨w.heap.size, 1, none⟩ = some (.int .u64 l) ∧ w1.cell? ⟨w.heap.size, 2, none⟩ = some (.bool v) ∧ w1.cell? ⟨w.heap.size, 3, none⟩ = some (.int .i64 n) := ⟨B0_1.cell 0, B0_1.cell 1, B0_1.cell 2, B0_1.cell 3⟩))
  go_wp2
  go_ret
  exact ⟨rfl, hK1⟩

theorem prefix_Sane_is {b : Bool} (p : PrefV) (w : World) (h : sanP p = b) : Calls Try.prog 46 #[.agg #[.int .u64 p.a.h, .int .u64 p.a.l, .bool p.a.v, .int .i64 p.n]] w fun e w' => e = .returned (.bool b) ∧ Kept w w' := h ▸ prefix_Sane p w

set_option maxHeartbeats 400000 in
set_option maxRecDepth 100000 in
theorem prefix_Contains (p : PrefV) (a : AddrV) (w : World) : Calls Try.prog 32 #[.agg #[.int .u64 p.a.h, .int .u64 p.a.l, .bool p.a.v, .int .i64 p.n], .agg #[.int .u64 a.h, .int .u64 a.l, .bool a.v]] w fun e w' => e = .returned (.bool (conP p a)) ∧ Kept w w' := by
  obtain ⟨⟨h, l, v⟩, n⟩ := p
  obtain ⟨h', l', v'⟩ := a
  have hu := Try.underlying34
  have hu2 := Try.underlying36
  cases hs : sanP ⟨⟨h, l, v⟩, n⟩ with
  | true =>
    have hf : conP ⟨⟨h, l, v⟩, n⟩ ⟨h', l', v'⟩ = eqP ⟨⟨h, l, v⟩, n⟩ (ofP ⟨h', l', v'⟩ n) := by simp [conP, hs]
    have Hf := Lib.hid hf
    have Hs := Lib.hid hs
    clear hf hs
    go_enter Try.func32, Try.ntmps32
    go_wp2_with fail
    obtain ⟨W, hW⟩ : ∃ W, (w.alloc (.cells #[.int .u64 h, .int .u64 l, .bool v, .int .i64 n] 36)).alloc (.cells #[.int .u64 h', .int .u64 l', .bool v'] 34) = W := ⟨_, rfl⟩
    have B0 : Blk W w.heap.size 36 #[.int .u64 h, .int .u64 l, .bool v, .int .i64 n] := hW ▸ (Blk.new _ _ _).alloc _
    have B1 : Blk W (w.heap.size + 1) 34 #[.int .u64 h', .int .u64 l', .bool v'] := hW ▸ Blk.new2 _ _ _ _
    have hK : Kept w W := hW ▸ ((Kept.refl _).alloc _).alloc _
    rw [hW]
    clear hW
    refine wp_region_quiet (C := fun W' => Blk W' (w.heap.size) 36 #[.int .u64 h, .int .u64 l, .bool v, .int .i64 n] ∧ Blk W' (w.heap.size + 1) 34 #[.int .u64 h', .int .u64 l', .bool v'] ∧ Kept w W') (by kernel_rfl) (by kernel_rfl) ⟨B0.drew, B1.drew, hK.drew⟩ ?_
    go_simp
    repeat (first
      | (apply q_val; rfl; (intro W hC; obtain ⟨b0, b1, hk⟩ := hC; have k0 := b0.cell; have k1 := b1.cell; clear b0 b1 hk; go_simp; rfl); go_simp)
      | (refine q_off rfl ?_; go_simp)
      | (apply q_call (f := 46); rfl; (intro W hC; go_simp; rfl); (intro W hC; (with_reducible refine (prefix_Sane_is ⟨⟨_, _, _⟩, _⟩ _ Hs.out).mono ?_); rintro e w1 ⟨rfl, hb1⟩; refine ⟨?_, hC.1.call hb1.out, hC.2.1.call hb1.out, hC.2.2.call hb1.out⟩; rfl); go_simp)
      | (apply q_call (f := 75); rfl; (intro W hC; go_simp; rfl); (intro W hC; (with_reducible refine (prefix_Of ⟨_, _, _⟩ _ _).mono ?_); rintro e w1 ⟨rfl, hb1⟩; refine ⟨?_, hC.1.call hb1.out, hC.2.1.call hb1.out, hC.2.2.call hb1.out⟩; rfl); go_simp))
    refine q_end ?_
    intro W1 B0_ B1_ hK1
    go_wp2
    go_ret
    exact ⟨by simp [Hf.out, eqP], hK1⟩
  | false =>
    have hf : conP ⟨⟨h, l, v⟩, n⟩ ⟨h', l', v'⟩ = false := by simp [conP, hs]
    have Hf := Lib.hid hf
    have Hs := Lib.hid hs
    clear hf hs
    go_enter Try.func32, Try.ntmps32
    go_wp2_with fail
    obtain ⟨W, hW⟩ : ∃ W, (w.alloc (.cells #[.int .u64 h, .int .u64 l, .bool v, .int .i64 n] 36)).alloc (.cells #[.int .u64 h', .int .u64 l', .bool v'] 34) = W := ⟨_, rfl⟩
    have B0 : Blk W w.heap.size 36 #[.int .u64 h, .int .u64 l, .bool v, .int .i64 n] := hW ▸ (Blk.new _ _ _).alloc _
    have B1 : Blk W (w.heap.size + 1) 34 #[.int .u64 h', .int .u64 l', .bool v'] := hW ▸ Blk.new2 _ _ _ _
    have hK : Kept w W := hW ▸ ((Kept.refl _).alloc _).alloc _
    rw [hW]
    clear hW
    refine wp_region_quiet (C := fun W' => Blk W' (w.heap.size) 36 #[.int .u64 h, .int .u64 l, .bool v, .int .i64 n] ∧ Blk W' (w.heap.size + 1) 34 #[.int .u64 h', .int .u64 l', .bool v'] ∧ Kept w W') (by kernel_rfl) (by kernel_rfl) ⟨B0.drew, B1.drew, hK.drew⟩ ?_
    go_simp
    repeat (first
      | (apply q_val; rfl; (intro W hC; obtain ⟨b0, b1, hk⟩ := hC; have k0 := b0.cell; have k1 := b1.cell; clear b0 b1 hk; go_simp; rfl); go_simp)
      | (refine q_off rfl ?_; go_simp)
      | (apply q_call (f := 46); rfl; (intro W hC; go_simp; rfl); (intro W hC; (with_reducible refine (prefix_Sane_is ⟨⟨_, _, _⟩, _⟩ _ Hs.out).mono ?_); rintro e w1 ⟨rfl, hb1⟩; refine ⟨?_, hC.1.call hb1.out, hC.2.1.call hb1.out, hC.2.2.call hb1.out⟩; rfl); go_simp))
    refine q_end ?_
    intro W1 B0_ B1_ hK1
    go_wp2
    go_ret
    exact ⟨by simp [Hf.out, eqP], hK1⟩

theorem prefix_Contains_is {b : Bool} (p : PrefV) (a : AddrV) (w : World) (h : conP p a = b) : Calls Try.prog 32 #[.agg #[.int .u64 p.a.h, .int .u64 p.a.l, .bool p.a.v, .int .i64 p.n], .agg #[.int .u64 a.h, .int .u64 a.l, .bool a.v]] w fun e w' => e = .returned (.bool b) ∧ Kept w w' := h ▸ prefix_Contains p a w

/-- does a prefix cover another one? -/
def covP (p q : PrefV) : Bool := decide (p.n ≤ q.n) && (sanP q && conP p q.a)

set_option maxHeartbeats 400000 in
set_option maxRecDepth 100000 in
theorem prefix_Covers (p q : PrefV) (w : World) : Calls Try.prog 44 #[.agg #[.int .u64 p.a.h, .int .u64 p.a.l, .bool p.a.v, .int .i64 p.n], .agg #[.int .u64 q.a.h, .int .u64 q.a.l, .bool q.a.v, .int .i64 q.n]] w fun e w' => e = .returned (.bool (covP p q)) ∧ Kept w w' := by
  obtain ⟨⟨h, l, v⟩, n⟩ := p
  obtain ⟨⟨h', l', v'⟩, n'⟩ := q
  have hu := Try.underlying34
  have hu2 := Try.underlying36
  by_cases hn : n ≤ n'
  · have hd : decide (n ≤ n') = true := decide_eq_true hn
    cases hs : sanP ⟨⟨h', l', v'⟩, n'⟩ with
    | true =>
      have Hf := Lib.hid (show covP ⟨⟨h, l, v⟩, n⟩ ⟨⟨h', l', v'⟩, n'⟩ = conP ⟨⟨h, l, v⟩, n⟩ ⟨h', l', v'⟩ by simp [covP, hs, hn])
      have Hs := Lib.hid hs
      clear hs hn
      go_enter Try.func44, Try.ntmps44
      go_wp2_with fail
      refine (prefix_Sane_is ⟨⟨_, _, _⟩, _⟩ _ Hs.out).mono ?_
      rintro e w1 ⟨rfl, hb1⟩
      have B0 := ((Blk.new w _ _).alloc _).call hb1.out
      have B1 := (Blk.new2 w _ _ _).call hb1.out
      have hK := (((Kept.refl w).alloc _).alloc _).call hb1.out
      obtain ⟨c0, f0⟩ := B0.facts
      obtain ⟨c1, f1⟩ := B1.facts
      clear hb1
      go_wp2_with fail
      refine (prefix_Contains ⟨⟨_, _, _⟩, _⟩ ⟨_, _, _⟩ _).mono ?_
      rintro e w2 ⟨rfl, hb2⟩
      have hK2 := hK.call hb2.out
      clear hb2 c0 f0 c1 f1
      go_wp2_with fail
      go_ret
      exact ⟨by simp [Hf.out], hK2⟩
    | false =>
      have Hf := Lib.hid (show covP ⟨⟨h, l, v⟩, n⟩ ⟨⟨h', l', v'⟩, n'⟩ = false by simp [covP, hs])
      have Hs := Lib.hid hs
      clear hs hn
      go_enter Try.func44, Try.ntmps44
      go_wp2_with fail
      refine (prefix_Sane_is ⟨⟨_, _, _⟩, _⟩ _ Hs.out).mono ?_
      rintro e w1 ⟨rfl, hb1⟩
      have hK := (((Kept.refl w).alloc _).alloc _).call hb1.out
      clear hb1
      go_wp2_with fail
      go_ret
      exact ⟨by simp [Hf.out], hK⟩
  · have hd : decide (n ≤ n') = false := decide_eq_false hn
    have Hf := Lib.hid (show covP ⟨⟨h, l, v⟩, n⟩ ⟨⟨h', l', v'⟩, n'⟩ = false by simp [covP, hn])
    clear hn
    go_enter Try.func44, Try.ntmps44
    go_wp2_with fail
    go_ret
    exact ⟨by simp [Hf.out], ((Kept.refl w).alloc _).alloc _⟩
end Go.Proofs.Ytapiffkeclnbbaa.A2
