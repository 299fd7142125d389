import Derived.Test.YtapiffkeclnbbaaProg
import Derived.Below
import Derived.Deep.Draws
import Derived.Deep.AppendLies
import Derived.Maps.AppendAt
import Derived.OwnWalk
import Derived.Laws.MakeOwn
import Derived.Laws.OwnMore
import Derived.Deep.OwnRows
import Derived.Tactics
import Derived.Laws.Slices
import Derived.WalkKit
import Derived.KernelRfl
import Derived.RowKit3
import Derived.Deep.LoopGhost
import Derived.Deep.QuietTactic
import Derived.BigQuiet
import Derived.WideLaws
import Derived.Deep.DeepCutAuto
import Derived.Deep.CutBlock
import Derived.Deep.RegionHeld3
import Derived.Deep.RegionWith
import Derived.Deep.RegionLaw
import Derived.Laws.Rows
import Derived.ArgAppend
import Derived.OrdersHeld
import Derived.Laws.BitsLemmas
import Derived.Laws.StructEq
import Derived.RowKit
import Derived.Lib.Hide
import Derived.Lib.SliceRun
import Derived.StillTail
import Derived.Lib.ItoaNum
import Derived.Test.YtapiffkeclnbbaaB0
import Derived.Test.YtapiffkeclnbbaaB1
import Derived.Test.YtapiffkeclnbbaaA1
import Derived.Test.YtapiffkeclnbbaaA2
import Derived.Test.YtapiffkeclnbbaaA3
import Derived.Test.YtapiffkeclnbbaaD1
import Derived.Test.YtapiffkeclnbbaaD2
import Derived.Test.YtapiffkeclnbbaaA7
import Derived.Test.YtapiffkeclnbbaaA8
/-! How many first digits are alike; what 'apart' says. -/
set_option linter.unusedVariables false
set_option linter.unusedSimpArgs false
namespace Go.Proofs.Ytapiffkeclnbbaa.D
open Go.RowKit Go.Proofs.Ytapiffkeclnbbaa.B0 Go.Proofs.Ytapiffkeclnbbaa.A1 Go.Proofs.Ytapiffkeclnbbaa.A2 Go.Proofs.Ytapiffkeclnbbaa.A7 Go.Proofs.Ytapiffkeclnbbaa.A8
theorem lz_spec {x : Int} (hx : u64 x) : ∃ n : Nat, lzV x = (n : Int) ∧ n ≤ 64 ∧ (∀ i, i < n → tb x (63 - i) = false) ∧ (n < 64 → tb x (63 - n) = true) := by
  have hlt := lt_of hx
  have hle := Lib.bitLen_le x.toNat 64 (Nat.le_refl _) hlt
  refine ⟨64 - Lib.bitLen x.toNat, by unfold lzV; omega, by omega, ?_, ?_⟩
  · intro i hi
    by_cases h0 : x.toNat = 0
    · unfold tb; rw [h0]; simp
    · obtain ⟨h1, h2, h3⟩ := Lib.bitLenAux_bounds 64 x.toNat hlt h0
      have h3 : x.toNat < 2 ^ Lib.bitLen x.toNat := h3
      exact Nat.testBit_lt_two_pow (Nat.lt_of_lt_of_le h3 (Nat.pow_le_pow_right (by omega) (by omega)))
  · intro hn
    have h0 : x.toNat ≠ 0 := by
      intro h
      rw [h] at hn
      have : Lib.bitLen 0 = 0 := Lib.bitLenAux_zero 64
      omega
    obtain ⟨h1, h2, h3⟩ := Lib.bitLenAux_bounds 64 x.toNat hlt h0
    have h1 : 1 ≤ Lib.bitLen x.toNat := h1
    have h2 : 2 ^ (Lib.bitLen x.toNat - 1) ≤ x.toNat := h2
    have h3 : x.toNat < 2 ^ Lib.bitLen x.toNat := h3
    have e : 63 - (64 - Lib.bitLen x.toNat) = Lib.bitLen x.toNat - 1 := by omega
    unfold tb
    rw [e]
    exact Nat.testBit_of_two_pow_le_and_two_pow_add_one_gt h2 (by rw [show Lib.bitLen x.toNat - 1 + 1 = Lib.bitLen x.toNat by omega]; exact h3)
theorem com_spec {a b : AddrV} (ha : okW a) (hb : okW b) (hv : a.v = b.v) : ∃ n : Nat, comA a b = (n : Int) ∧ n ≤ wd a.v ∧ (∀ i, i < n → dig a i = dig b i) ∧ (n < wd a.v → dig a n ≠ dig b n) := by
  have hw := wd_le a.v
  obtain ⟨n1, e1, l1, z1, d1⟩ := lz_spec (u64_bits .xor (readH a.h a.v) (readH b.h b.v))
  obtain ⟨n2, e2, l2, z2, d2⟩ := lz_spec (u64_bits .xor (readL a.l a.v) (readL b.l b.v))
  have hx : ∀ i, i < 64 → tb (Go.bits .xor .u64 (readH a.h a.v) (readH b.h b.v)) (63 - i) = ((dig a i ^^ dig b i) && decide (i < wd a.v)) := by
    intro i hi
    have r1 := dw_read ha i (by omega)
    have r2 := dw_read hb i (by omega)
    unfold dw at r1 r2
    rw [if_pos hi] at r1 r2
    rw [tb_xor (u64_readH _ _) (u64_readH _ _), r1, r2, ← hv]
    cases dig a i <;> cases dig b i <;> cases decide (i < wd a.v) <;> rfl
  have hy : ∀ i, 64 ≤ i → i < 128 → tb (Go.bits .xor .u64 (readL a.l a.v) (readL b.l b.v)) (127 - i) = ((dig a i ^^ dig b i) && decide (i < wd a.v)) := by
    intro i hi hi2
    have r1 := dw_read ha i hi2
    have r2 := dw_read hb i hi2
    unfold dw at r1 r2
    rw [if_neg (by omega)] at r1 r2
    rw [tb_xor (u64_readL _ _) (u64_readL _ _), r1, r2, ← hv]
    cases dig a i <;> cases dig b i <;> cases decide (i < wd a.v) <;> rfl
  have hc : comA a b = mn (if n1 = 64 then ((64 + n2 : Nat) : Int) else (n1 : Int)) (wd a.v) := by
    unfold comA
    rw [if_pos hv, e1, e2, wd_wid]
    congr 1
    by_cases h : n1 = 64
    · rw [if_pos (by omega), if_pos h]; omega
    · rw [if_neg (by omega), if_neg h]
  have hxor : ∀ {p q : Bool}, (p ^^ q) = false → p = q := by decide
  have hxor2 : ∀ {p q : Bool}, (p ^^ q) = true → p ≠ q := by decide
  -- the place of the first difference
  obtain ⟨m, hm, hm128, hlo, hhi⟩ : ∃ m : Nat, (if n1 = 64 then ((64 + n2 : Nat) : Int) else (n1 : Int)) = (m : Int) ∧ m ≤ 128 ∧ (∀ i, i < m → i < wd a.v → dig a i = dig b i) ∧ (m < wd a.v → dig a m ≠ dig b m) := by
    by_cases h : n1 = 64
    · refine ⟨64 + n2, by rw [if_pos h], by omega, fun i hi hiw => ?_, fun hmw => ?_⟩
      · rcases Nat.lt_or_ge i 64 with h64 | h64
        · have := z1 i (by omega)
          rw [hx i h64] at this
          simp only [hiw, decide_true, Bool.and_true] at this
          exact hxor this
        · have := z2 (i - 64) (by omega)
          rw [show 63 - (i - 64) = 127 - i by omega, hy i h64 (by omega)] at this
          simp only [hiw, decide_true, Bool.and_true] at this
          exact hxor this
      · have := d2 (by omega)
        rw [show 63 - n2 = 127 - (64 + n2) by omega, hy (64 + n2) (by omega) (by omega)] at this
        simp only [hmw, decide_true, Bool.and_true] at this
        exact hxor2 this
    · refine ⟨n1, by rw [if_neg h], by omega, fun i hi hiw => ?_, fun hmw => ?_⟩
      · have := z1 i hi
        rw [hx i (by omega)] at this
        simp only [hiw, decide_true, Bool.and_true] at this
        exact hxor this
      · have := d1 (by omega)
        rw [hx n1 (by omega)] at this
        simp only [hmw, decide_true, Bool.and_true] at this
        exact hxor2 this
  rw [hm] at hc
  refine ⟨min m (wd a.v), by rw [hc]; unfold mn; split <;> omega, by omega, fun i hi => hlo i (by omega) (by omega), fun h => ?_⟩
  rw [show min m (wd a.v) = m by omega]
  exact hhi (by omega)
theorem apaP_iff {p q : PrefV} (hp : okW p.a) (hq : okW q.a) : apaP p q = true ↔ sanP p = true ∧ sanP q = true ∧ covP p q = false ∧ covP q p = false := by
  unfold apaP
  simp only [Bool.and_eq_true, Bool.or_eq_true, Bool.not_eq_true', beq_eq_false_iff_ne, decide_eq_true_eq]
  constructor
  · rintro ⟨sp, sq, h⟩
    obtain ⟨p0, p1, pz⟩ := (sanP_iff hp).1 sp
    obtain ⟨q0, q1, qz⟩ := (sanP_iff hq).1 sq
    refine ⟨sp, sq, ?_, ?_⟩
    · refine Bool.eq_false_iff.2 fun hc => ?_
      obtain ⟨hn, _, _, hv, hd⟩ := (covP_iff hp hq).1 hc
      rcases h with h | h
      · exact h hv
      · obtain ⟨n, e, l, _, d⟩ := com_spec hp hq hv
        rw [e] at h
        unfold mn at h
        have hnp : (n : Int) < p.n := by split at h <;> omega
        exact d (by omega) (hd n hnp)
    · refine Bool.eq_false_iff.2 fun hc => ?_
      obtain ⟨hn, _, _, hv, hd⟩ := (covP_iff hq hp).1 hc
      rcases h with h | h
      · exact h hv.symm
      · obtain ⟨n, e, l, _, d⟩ := com_spec hp hq hv.symm
        rw [e] at h
        unfold mn at h
        have hnp : (n : Int) < q.n := by split at h <;> omega
        exact d (by rw [← hv]; omega) (hd n hnp).symm
  · rintro ⟨sp, sq, h1, h2⟩
    refine ⟨sp, sq, ?_⟩
    by_cases hv : p.a.v = q.a.v
    · right
      obtain ⟨n, e, l, hlo, d⟩ := com_spec hp hq hv
      rw [e]
      rcases Int.lt_or_le (n : Int) (mn p.n q.n) with h | h
      · exact h
      · exfalso
        unfold mn at h
        rcases Int.le_total p.n q.n with hpq | hpq
        · have : covP p q = true := (covP_iff hp hq).2 ⟨hpq, sq, sp, hv, fun i hi => hlo i (by split at h <;> omega)⟩
          rw [this] at h1; cases h1
        · have : covP q p = true := (covP_iff hq hp).2 ⟨hpq, sp, sq, hv.symm, fun i hi => (hlo i (by split at h <;> omega)).symm⟩
          rw [this] at h2; cases h2
    · exact .inl hv
end Go.Proofs.Ytapiffkeclnbbaa.D
