import Derived.Test.YtapiffkeclnbbaaProg
import Derived.Below
import Derived.Deep.Draws
import Derived.Deep.AppendLies
import Derived.Maps.AppendAt
import Derived.OwnWalk
import Derived.Laws.MakeOwn
import Derived.Laws.OwnMore
import Derived.Deep.OwnRows
import Derived.Tactics
import Derived.Laws.Slices
import Derived.WalkKit
import Derived.KernelRfl
import Derived.RowKit3
import Derived.Deep.LoopGhost
import Derived.Deep.QuietTactic
import Derived.BigQuiet
import Derived.WideLaws
import Derived.Deep.DeepCutAuto
import Derived.Deep.CutBlock
import Derived.Deep.RegionHeld3
import Derived.Deep.RegionWith
import Derived.Deep.RegionLaw
import Derived.Laws.Rows
import Derived.ArgAppend
import Derived.OrdersHeld
import Derived.Laws.BitsLemmas
import Derived.Laws.StructEq
import Derived.RowKit
import Derived.Lib.Hide
import Derived.Lib.SliceRun
import Derived.StillTail
import Derived.Shelf.Small.Bits
import Derived.Test.YtapiffkeclnbbaaB0
import Derived.Test.YtapiffkeclnbbaaB1
import Derived.Test.YtapiffkeclnbbaaB2
import Derived.Test.YtapiffkeclnbbaaB3
import Derived.Test.YtapiffkeclnbbaaB4
import Derived.Test.YtapiffkeclnbbaaB7
import Derived.Test.YtapiffkeclnbbaaB8
import Derived.Test.YtapiffkeclnbbaaB9
import Derived.Test.YtapiffkeclnbbaaA1
import Derived.Test.YtapiffkeclnbbaaA2
/-! bits.LeadingZeros64, addr.Common, prefix.Apart. -/
set_option linter.unusedVariables false
set_option linter.unusedSimpArgs false
namespace Go.Proofs.Ytapiffkeclnbbaa.A7
open Go.RowKit Go.Proofs.Ytapiffkeclnbbaa.B0 Go.Proofs.Ytapiffkeclnbbaa.A1 Go.Proofs.Ytapiffkeclnbbaa.A2
attribute [local irreducible] wpNq
attribute [local go_sem] max2_mx min2_mn maxOf2 minOf2 minOf3
def laysLz_ren : Go.Shelf.Ren := ⟨fun | 134 => 150 | 129 => 167 | n => n, fun | 53 => 32 | 3 => 3 | 4 => 4 | 46 => 208 | 5 => 5 | 9 => 9 | n => n, fun | n => n⟩
theorem laysLz : Go.Proofs.Lays.n134 Try.prog laysLz_ren := {
  mixed := by kernel_rfl
  f129 := Try.func167.trans (congrArg some (by kernel_rfl))
  f134 := Try.func150.trans (congrArg some (by kernel_rfl))
  t3 := Try.underlying3
  a3 := Try.isAgg3
  z3 := Try.sizeOf3
  v3 := Try.zeroValue3
  t4 := Try.underlying4
  a4 := Try.isAgg4
  z4 := Try.sizeOf4
  v4 := Try.zeroValue4
  t5 := Try.underlying5
  a5 := Try.isAgg5
  z5 := Try.sizeOf5
  v5 := Try.zeroValue5
  t9 := Try.underlying9
  a9 := Try.isAgg9
  z9 := Try.sizeOf9
  v9 := Try.zeroValue9
  t46 := Try.underlying208
  a46 := Try.isAgg208
  z46 := Try.sizeOf208
  v46 := Try.zeroValue208
  t53 := Try.underlying32
  a53 := Try.isAgg32
  z53 := Try.sizeOf32
  v53 := Try.zeroValue32 }
/-- how many first digits of a word are 0 -/
def lzV (x : Int) : Int := 64 - (Lib.bitLen x.toNat : Int)
theorem bits_LeadingZeros64 (x : Int) (w : World) (h0 : 0 ≤ x) (h1 : x < 18446744073709551616) : Calls Try.prog 150 #[.int .u64 x] w fun e w' => e = .returned (.int .i64 (lzV x)) ∧ w' = w :=
  Any.bits_LeadingZeros64 laysLz x w h0 (by omega)
theorem lzV_bd {x : Int} (h0 : 0 ≤ x) (h1 : x < 18446744073709551616) : 0 ≤ lzV x ∧ lzV x ≤ 64 := by
  have := Lib.bitLen_le x.toNat 64 (Nat.le_refl _) (by omega)
  unfold lzV
  omega
/-- how many first digits are alike -/
def comA (a b : AddrV) : Int := if a.v = b.v then mn (if lzV (Go.bits .xor .u64 (readH a.h a.v) (readH b.h b.v)) = 64 then 64 + lzV (Go.bits .xor .u64 (readL a.l a.v) (readL b.l b.v)) else lzV (Go.bits .xor .u64 (readH a.h a.v) (readH b.h b.v))) (wid a.v) else 0
set_option maxHeartbeats 1000000 in
set_option maxRecDepth 100000 in
theorem addr_Common (a b : AddrV) (w : World) : Calls Try.prog 109 #[.agg #[.int .u64 a.h, .int .u64 a.l, .bool a.v], .agg #[.int .u64 b.h, .int .u64 b.l, .bool b.v]] w fun e w' => e = .returned (.int .i64 (comA a b)) ∧ Kept w w' := by
  have hu := Try.underlying34
  have hu2 := Try.underlying207
  by_cases hv : a.v = b.v
  · have hvb : (a.v == b.v) = true := beq_iff_eq.2 hv
    obtain ⟨x, hx⟩ : ∃ x, Go.bits .xor .u64 (readH a.h a.v) (readH b.h b.v) = x := ⟨_, rfl⟩
    obtain ⟨y, hy⟩ : ∃ y, Go.bits .xor .u64 (readL a.l a.v) (readL b.l b.v) = y := ⟨_, rfl⟩
    have hxr := bits_range .xor (readH a.h a.v) (readH b.h b.v)
    have hyr := bits_range .xor (readL a.l a.v) (readL b.l b.v)
    rw [hx] at hxr
    rw [hy] at hyr
    have hc : comA a b = mn (if lzV x = 64 then 64 + lzV y else lzV x) (wid a.v) := by unfold comA; rw [if_pos hv, hx, hy]
    rw [hc]
    have lx := lzV_bd hxr.1 hxr.2
    have ly := lzV_bd hyr.1 hyr.2
    obtain ⟨p, hp⟩ : ∃ p, lzV x = p := ⟨_, rfl⟩
    obtain ⟨q, hq⟩ : ∃ q, lzV y = q := ⟨_, rfl⟩
    have HP := Lib.hid hp
    have HQ := Lib.hid hq
    rw [hp] at lx ⊢
    rw [hq] at ly ⊢
    obtain ⟨X, hX⟩ : ∃ X, (if p = 64 then 64 + q else p) = X := ⟨_, rfl⟩
    have HX := Lib.hid hX
    rw [hX]
    have HV := Lib.hid hv
    clear hc hp hq hv hX
    go_enter Try.func109, Try.ntmps109
    go_wp2_with fail
    obtain ⟨W, hW⟩ : ∃ W, (w.alloc (.cells #[.int .u64 a.h, .int .u64 a.l, .bool a.v] 34)).alloc (.cells #[.int .u64 b.h, .int .u64 b.l, .bool b.v] 34) = W := ⟨_, rfl⟩
    have B0 : Blk W w.heap.size 34 #[.int .u64 a.h, .int .u64 a.l, .bool a.v] := hW ▸ (Blk.new _ _ _).alloc _
    have B1 : Blk W (w.heap.size + 1) 34 #[.int .u64 b.h, .int .u64 b.l, .bool b.v] := hW ▸ Blk.new2 _ _ _ _
    have hK : Kept w W := hW ▸ ((Kept.refl w).alloc _).alloc _
    rw [hW]
    clear hW
    have hS : Steady (fun W' => Blk W' w.heap.size 34 #[.int .u64 a.h, .int .u64 a.l, .bool a.v] ∧ Blk W' (w.heap.size + 1) 34 #[.int .u64 b.h, .int .u64 b.l, .bool b.v] ∧ Kept w W') := fun w1 w2 h hb => ⟨h.1.call hb, h.2.1.call hb, h.2.2.call hb⟩
    refine wp_region_n 6 [(0, 0), (1, 0), (2, 0), (3, 0), (4, 2), (5, 2)] [4, 5] (w.heap.size + 1 + 1) (fun W' => Blk W' w.heap.size 34 #[.int .u64 a.h, .int .u64 a.l, .bool a.v] ∧ Blk W' (w.heap.size + 1) 34 #[.int .u64 b.h, .int .u64 b.l, .bool b.v] ∧ Kept w W') (by kernel_rfl) (by kernel_rfl) hS (fun W h => h.2.1.lt) ⟨B0.drew, B1.drew, hK.drew⟩ ?_
    simp only [List.map_cons, List.map_nil, List.getElem?_toArray, List.getElem?_cons_succ, List.getElem?_cons_zero]
    clear B0 B1 hK
    repeat (first
      | (apply n_val; rfl; (intro W hC; have k0 := hC.1.cell; have k1 := hC.2.1.cell; clear hC; go_simp; rfl); go_simp)
      | (refine n_off rfl ?_; go_simp)
      | (apply n_call (f := 149) (v := .agg #[.int .u64 (readH a.h a.v), .int .u64 (readL a.l a.v)]); rfl; (intro W hC; go_simp; rfl); (intro W hC; (with_reducible refine (addr_read a.h a.l a.v _).mono ?_); rintro e w1 ⟨rfl, hb1⟩; exact ⟨rfl, hb1.out⟩); go_simp)
      | (apply n_call (f := 149) (v := .agg #[.int .u64 (readH b.h b.v), .int .u64 (readL b.l b.v)]); rfl; (intro W hC; go_simp; rfl); (intro W hC; (with_reducible refine (addr_read b.h b.l b.v _).mono ?_); rintro e w1 ⟨rfl, hb1⟩; exact ⟨rfl, hb1.out⟩); go_simp))
    have hals : ∀ j ∈ [4, 5], j = 4 ∨ j = 5 := by intro j hj; simpa using hj
    refine n_alloc (m := fun g => .pointer (some ⟨g, 0, none⟩)) (z := #[.int .u64 0, .int .u64 0]) (t := 207) rfl ?_ (by intro w; go_simp) ?_
    · intro j hj
      rcases hals j hj with rfl | rfl <;> exact ⟨_, rfl, rfl, (fun g => .pointer (some ⟨g, 0, none⟩)), #[.int .u64 0, .int .u64 0], 207, by intro w; go_simp⟩
    intro g5 hg5 _
    go_simp
    refine n_alloc (m := fun g => .pointer (some ⟨g, 0, none⟩)) (z := #[.int .u64 0, .int .u64 0]) (t := 207) rfl ?_ (by intro w; go_simp) ?_
    · intro j hj
      rcases hals j hj with rfl | rfl <;> exact ⟨_, rfl, rfl, (fun g => .pointer (some ⟨g, 0, none⟩)), #[.int .u64 0, .int .u64 0], 207, by intro w; go_simp⟩
    intro g6 hg6 hng
    have h56 : g6 ≠ g5 := hng
    clear hng
    go_simp
    refine n_end fun W1 hC1 => ?_
    obtain ⟨⟨⟨B0, B1, hK⟩, B5⟩, B6⟩ := hC1
    have hz := hK.size
    clear hS hals
    obtain ⟨c0, f0⟩ := B0.facts
    obtain ⟨c1, f1⟩ := B1.facts
    obtain ⟨c5, f5⟩ := B5.facts
    obtain ⟨c6, f6⟩ := B6.facts
    go_wp2_with fail
    obtain ⟨W2, hW2⟩ : ∃ W2, (((W1.setCell ⟨g5, 0, none⟩ (.int .u64 (readH a.h a.v))).setCell ⟨g5, 1, none⟩ (.int .u64 (readL a.l a.v))).setCell ⟨g6, 0, none⟩ (.int .u64 (readH b.h b.v))).setCell ⟨g6, 1, none⟩ (.int .u64 (readL b.l b.v)) = W2 := ⟨_, rfl⟩
    have R5 : Blk W2 g5 207 #[.int .u64 (readH a.h a.v), .int .u64 (readL a.l a.v)] := hW2 ▸ (((B5.put 0 _ rfl).put 1 _ rfl).far (Ne.symm h56) _).far (Ne.symm h56) _
    have R6 : Blk W2 g6 207 #[.int .u64 (readH b.h b.v), .int .u64 (readL b.l b.v)] := hW2 ▸ (((B6.far h56 _).far h56 _).put 0 _ rfl).put 1 _ rfl
    have R0 : Blk W2 w.heap.size 34 #[.int .u64 a.h, .int .u64 a.l, .bool a.v] := hW2 ▸ (((B0.far (by simp; omega) _).far (by simp; omega) _).far (by simp; omega) _).far (by simp; omega) _
    have hK2 : Kept w W2 := hW2 ▸ (((hK.set (by omega)).set (by omega)).set (by omega)).set (by omega)
    rw [hW2]
    clear hW2 c0 f0 c1 f1 c5 f5 c6 f6 B0 B1 B5 B6 hK
    obtain ⟨c0, f0⟩ := R0.facts
    obtain ⟨c5, f5⟩ := R5.facts
    obtain ⟨c6, f6⟩ := R6.facts
    refine (bits_LeadingZeros64 x _ hxr.1 hxr.2).mono ?_
    rintro e w3 ⟨rfl, rfl⟩
    rw [HP.out]
    by_cases h64 : p = 64
    · have hX1 : X = 64 + q := by rw [← HX.out, if_pos h64]
      have h64b : (p == 64) = true := beq_iff_eq.2 h64
      subst h64
      subst hX1
      have hw64 : IntKind.i64.wrap (64 + q) = 64 + q := by rw [IntKind.wrap_i64]; omega
      go_wp2_with fail
      refine (bits_LeadingZeros64 y _ hyr.1 hyr.2).mono ?_
      rintro e w4 ⟨rfl, rfl⟩
      rw [HQ.out]
      go_wp2_with fail
      refine (addr_Width _ _).mono ?_
      rintro e w5 ⟨rfl, rfl⟩
      go_wp2_with fail
      go_ret
      exact ⟨rfl, hK2⟩
    · have hX1 : X = p := by rw [← HX.out, if_neg h64]
      have h64b : (p == 64) = false := beq_eq_false_iff_ne.2 h64
      subst hX1
      go_wp2_with fail
      refine (addr_Width _ _).mono ?_
      rintro e w5 ⟨rfl, rfl⟩
      go_wp2_with fail
      go_ret
      exact ⟨rfl, hK2⟩
  · have hvb : (a.v == b.v) = false := beq_eq_false_iff_ne.2 hv
    have hc : comA a b = 0 := by unfold comA; rw [if_neg hv]
    rw [hc]
    have HV := Lib.hid hv
    clear hc hv
    go_enter Try.func109, Try.ntmps109
    go_wp2_with fail
    go_ret
    exact ⟨rfl, ((Kept.refl w).alloc _).alloc _⟩
end Go.Proofs.Ytapiffkeclnbbaa.A7
