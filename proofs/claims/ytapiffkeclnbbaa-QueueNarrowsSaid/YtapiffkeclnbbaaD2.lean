import Derived.Test.YtapiffkeclnbbaaProg
import Derived.Below
import Derived.Deep.Draws
import Derived.Deep.AppendLies
import Derived.Maps.AppendAt
import Derived.OwnWalk
import Derived.Laws.MakeOwn
import Derived.Laws.OwnMore
import Derived.Deep.OwnRows
import Derived.Tactics
import Derived.Laws.Slices
import Derived.WalkKit
import Derived.KernelRfl
import Derived.RowKit3
import Derived.Deep.LoopGhost
import Derived.Deep.QuietTactic
import Derived.BigQuiet
import Derived.WideLaws
import Derived.Deep.DeepCutAuto
import Derived.Deep.CutBlock
import Derived.Deep.RegionHeld3
import Derived.Deep.RegionWith
import Derived.Deep.RegionLaw
import Derived.Laws.Rows
import Derived.ArgAppend
import Derived.OrdersHeld
import Derived.Laws.BitsLemmas
import Derived.Laws.StructEq
import Derived.RowKit
import Derived.Lib.Hide
import Derived.Lib.SliceRun
import Derived.StillTail
import Derived.Test.YtapiffkeclnbbaaB0
import Derived.Test.YtapiffkeclnbbaaB1
import Derived.Test.YtapiffkeclnbbaaA1
import Derived.Test.YtapiffkeclnbbaaA2
import Derived.Test.YtapiffkeclnbbaaA3
import Derived.Test.YtapiffkeclnbbaaD1
/-! Digits of addresses; what sane, mask, prefixes and their tests say of digits. -/
set_option linter.unusedVariables false
set_option linter.unusedSimpArgs false
namespace Go.Proofs.Ytapiffkeclnbbaa.D
open Go.RowKit Go.Proofs.Ytapiffkeclnbbaa.B0 Go.Proofs.Ytapiffkeclnbbaa.A1 Go.Proofs.Ytapiffkeclnbbaa.A2
def wd (v : Bool) : Nat := if v = true then 128 else 32
theorem wd_wid (v : Bool) : wid v = (wd v : Int) := by unfold wid wd; split <;> rfl
theorem wd_le (v : Bool) : wd v ≤ 128 ∧ 32 ≤ wd v := by unfold wd; split <;> omega
/-- an address's words are words -/
def okW (a : AddrV) : Prop := u64 a.h ∧ u64 a.l
/-- digit i as it stands -/
def dig (a : AddrV) (i : Nat) : Bool := if i < 64 then tb a.h (63 - i) else tb a.l (127 - i)
/-- digit i of two words -/
def dw (x y : Int) (i : Nat) : Bool := if i < 64 then tb x (63 - i) else tb y (127 - i)
theorem dig_dw (a : AddrV) : dig a = dw a.h a.l := rfl
theorem dw_ext {x y x' y' : Int} (hx : u64 x) (hy : u64 y) (hx' : u64 x') (hy' : u64 y') (h : ∀ i, i < 128 → dw x y i = dw x' y' i) : x = x' ∧ y = y' := by
  refine ⟨tb_ext hx hx' fun j hj => ?_, tb_ext hy hy' fun j hj => ?_⟩
  · have := h (63 - j) (by omega)
    simp only [dw] at this
    rw [if_pos (by omega), if_pos (by omega), show 63 - (63 - j) = j by omega] at this
    exact this
  · have := h (127 - j) (by omega)
    simp only [dw] at this
    rw [if_neg (by omega), if_neg (by omega), show 127 - (127 - j) = j by omega] at this
    exact this
theorem cl_eq (x : Int) : cl x = if x < 0 then 0 else if 64 < x then 64 else x := by unfold cl mx mn; split <;> split <;> omega
theorem u64_ones (k a b : Int) : u64 (onesW k a b) := u64_bits _ _ _
theorem tb_ones {k a b : Int} (j : Nat) (hj : j < 64) : tb (onesW k a b) j = (decide (64 * k + (63 - j) < b) && !decide (64 * k + (63 - j) < a)) := by
  unfold onesW
  have ca := cl_bd (a - 64 * k)
  have cb := cl_bd (b - 64 * k)
  rw [tb_andNot (u64_high cb.1 cb.2) (u64_high ca.1 ca.2) j hj, tb_high cb.1 cb.2 j hj, tb_high ca.1 ca.2 j hj]
  have ea : decide (64 - cl (a - 64 * k) ≤ j) = decide (64 * k + (63 - j) < a) := by
    rw [decide_eq_decide, cl_eq]; split
    · omega
    · split <;> omega
  have eb : decide (64 - cl (b - 64 * k) ≤ j) = decide (64 * k + (63 - j) < b) := by
    rw [decide_eq_decide, cl_eq]; split
    · omega
    · split <;> omega
  rw [ea, eb]
/-- the words that 'ones' lays, as digits -/
theorem dw_ones (a b : Int) (i : Nat) (hi : i < 128) : dw (onesW 0 a b) (onesW 1 a b) i = (decide ((i : Int) < b) && !decide ((i : Int) < a)) := by
  unfold dw
  split
  · rename_i h
    rw [tb_ones (63 - i) (by omega), show (64 * 0 + (63 - ((63 - i : Nat) : Int)) : Int) = i by omega]
  · rename_i h
    rw [tb_ones (127 - i) (by omega), show (64 * 1 + (63 - ((127 - i : Nat) : Int)) : Int) = i by omega]
theorem u64_readH (h : Int) (v : Bool) : u64 (readH h v) := u64_bits _ _ _
theorem u64_readL (l : Int) (v : Bool) : u64 (readL l v) := u64_bits _ _ _
theorem dw_read {a : AddrV} (ha : okW a) (i : Nat) (hi : i < 128) : dw (readH a.h a.v) (readL a.l a.v) i = (dig a i && decide (i < wd a.v)) := by
  have h1 := dw_ones 0 (wid a.v) i hi
  have e : (decide ((i : Int) < wid a.v) && !decide ((i : Int) < 0)) = decide (i < wd a.v) := by
    rw [wd_wid]
    have : decide ((i : Int) < 0) = false := decide_eq_false (by omega)
    rw [this]
    simp
  rw [e] at h1
  unfold dig
  unfold dw readH readL at *
  split
  · rename_i h
    rw [if_pos h] at h1
    rw [tb_and ha.1 (u64_ones _ _ _), h1]
  · rename_i h
    rw [if_neg h] at h1
    rw [tb_and ha.2 (u64_ones _ _ _), h1]
theorem saneA_iff {a : AddrV} (ha : okW a) : saneA a = true ↔ ∀ i, i < 128 → dig a i = true → i < wd a.v := by
  unfold saneA
  simp only [Bool.and_eq_true, beq_iff_eq]
  constructor
  · intro h i hi hd
    have := dw_read ha i hi
    rw [h.1, h.2, ← dig_dw, hd] at this
    simpa using this.symm
  · intro h
    refine dw_ext (u64_readH _ _) (u64_readL _ _) ha.1 ha.2 fun i hi => ?_
    rw [dw_read ha i hi, ← dig_dw]
    cases hd : dig a i
    · rfl
    · simp [h i hi hd]
theorem okW_mask (a : AddrV) (n : Int) : okW (maskA a n) := ⟨by simp only [maskA]; exact u64_bits _ _ _, by simp only [maskA]; exact u64_bits _ _ _⟩
theorem mask_v (a : AddrV) (n : Int) : (maskA a n).v = a.v := rfl
theorem dig_mask {a : AddrV} (ha : okW a) (n : Int) (i : Nat) (hi : i < 128) : dig (maskA a n) i = (dig a i && decide (i < wd a.v) && decide ((i : Int) < mx 0 (mn n (wid a.v)))) := by
  have h0 := dw_read ha i hi
  have h1 := dw_ones (mx 0 (mn n (wid a.v))) (wid a.v) i hi
  rw [← h0]
  unfold dig dw maskA tailW at *
  simp only at *
  split
  · rename_i h
    rw [tb_andNot (u64_readH _ _) (u64_ones _ _ _) _ (by omega)]
    rw [if_pos h, if_pos h] at h0
    rw [if_pos h] at h1
    rw [h1, h0]
    by_cases hb : i < wd a.v
    · have e : decide ((i : Int) < wid a.v) = true := decide_eq_true (by rw [wd_wid]; omega)
      rw [e]
      cases tb a.h (63 - i) <;> simp [hb]
    · have e : decide (i < wd a.v) = false := decide_eq_false hb
      rw [e]; simp
  · rename_i h
    rw [tb_andNot (u64_readL _ _) (u64_ones _ _ _) _ (by omega)]
    rw [if_neg h, if_neg h] at h0
    rw [if_neg h] at h1
    rw [h1, h0]
    by_cases hb : i < wd a.v
    · have e : decide ((i : Int) < wid a.v) = true := decide_eq_true (by rw [wd_wid]; omega)
      rw [e]
      cases tb a.l (127 - i) <;> simp [hb]
    · have e : decide (i < wd a.v) = false := decide_eq_false hb
      rw [e]; simp
theorem addr_ext {a b : AddrV} (ha : okW a) (hb : okW b) (hv : a.v = b.v) (h : ∀ i, i < 128 → dig a i = dig b i) : a = b := by
  obtain ⟨e1, e2⟩ := dw_ext ha.1 ha.2 hb.1 hb.2 h
  cases a; cases b; simp_all
theorem eqP_iff (p q : PrefV) : eqP p q = true ↔ p = q := by
  obtain ⟨⟨h, l, v⟩, n⟩ := p
  obtain ⟨⟨h', l', v'⟩, n'⟩ := q
  simp [eqP, and_assoc]
theorem eqR_iff (p q : RouteV) : eqR p q = true ↔ p = q := by
  obtain ⟨⟨⟨h, l, v⟩, n⟩, x⟩ := p
  obtain ⟨⟨⟨h', l', v'⟩, n'⟩, x'⟩ := q
  simp [eqR, and_assoc]
theorem eqA_iff (p q : AddrV) : eqA p q = true ↔ p = q := by
  obtain ⟨h, l, v⟩ := p
  obtain ⟨h', l', v'⟩ := q
  simp [eqA, and_assoc]
/-- a prefix's length, held within its width -/
theorem clamp_of {n w : Int} (h0 : 0 ≤ n) (h1 : n ≤ w) : mx 0 (mn n w) = n := by unfold mx mn; split <;> split <;> omega
theorem clamp_bd (n : Int) (v : Bool) : 0 ≤ mx 0 (mn n (wid v)) ∧ mx 0 (mn n (wid v)) ≤ wid v := mxmn_bd n v
theorem sanP_iff {p : PrefV} (ha : okW p.a) : sanP p = true ↔ 0 ≤ p.n ∧ p.n ≤ wd p.a.v ∧ ∀ i, i < 128 → dig p.a i = true → (i : Int) < p.n := by
  unfold sanP
  rw [eqP_iff]
  constructor
  · intro h
    have hn : p.n = mx 0 (mn p.n (wid p.a.v)) := congrArg PrefV.n h
    have hA : p.a = maskA p.a (mx 0 (mn p.n (wid p.a.v))) := congrArg PrefV.a h
    have hb := clamp_bd p.n p.a.v
    rw [← hn] at hb hA
    refine ⟨hb.1, by rw [← wd_wid]; exact hb.2, fun i hi hd => ?_⟩
    rw [hA, dig_mask ha _ i hi] at hd
    simp only [Bool.and_eq_true, decide_eq_true_eq] at hd
    rw [clamp_of hb.1 hb.2] at hd
    exact hd.2
  · rintro ⟨h0, h1, hd⟩
    have hcl : mx 0 (mn p.n (wid p.a.v)) = p.n := clamp_of h0 (by rw [wd_wid]; exact h1)
    obtain ⟨a, n⟩ := p
    simp only [ofP] at *
    rw [hcl]
    congr 1
    refine addr_ext ha (okW_mask _ _) rfl fun i hi => ?_
    rw [dig_mask ha _ i hi, hcl]
    cases e : dig a i
    · rfl
    · have := hd i hi e
      have h2 : i < wd a.v := by omega
      simp [this, h2]
theorem conP_iff {p : PrefV} {a : AddrV} (hp : okW p.a) (ha : okW a) : conP p a = true ↔ sanP p = true ∧ p.a.v = a.v ∧ ∀ i : Nat, (i : Int) < p.n → dig p.a i = dig a i := by
  unfold conP
  rw [Bool.and_eq_true, eqP_iff]
  constructor
  · rintro ⟨hs, h⟩
    obtain ⟨h0, h1, hd⟩ := (sanP_iff hp).1 hs
    have hv : p.a.v = a.v := congrArg (fun q : PrefV => q.a.v) h
    have hA : p.a = maskA a (mx 0 (mn p.n (wid a.v))) := congrArg PrefV.a h
    refine ⟨hs, hv, fun i hi => ?_⟩
    have hw := wd_le p.a.v
    have hi2 : i < 128 := by omega
    rw [hA, dig_mask ha _ i hi2, clamp_of (by rw [clamp_of h0 (by rw [wd_wid, ← hv]; exact h1)]; exact h0) (by rw [clamp_of h0 (by rw [wd_wid, ← hv]; exact h1), wd_wid, ← hv]; exact h1), clamp_of h0 (by rw [wd_wid, ← hv]; exact h1)]
    have h3 : i < wd a.v := by rw [← hv]; omega
    simp [hi, h3]
  · rintro ⟨hs, hv, hd⟩
    refine ⟨hs, ?_⟩
    obtain ⟨h0, h1, hz⟩ := (sanP_iff hp).1 hs
    obtain ⟨b, n⟩ := p
    simp only [ofP] at *
    have hcl : mx 0 (mn n (wid a.v)) = n := clamp_of h0 (by rw [wd_wid, ← hv]; exact h1)
    rw [hcl]
    congr 1
    refine addr_ext hp (okW_mask _ _) hv fun i hi => ?_
    rw [dig_mask ha _ i hi, hcl]
    by_cases h : (i : Int) < n
    · have h3 : i < wd a.v := by rw [← hv]; omega
      rw [hd i h]
      simp [h, h3]
    · have e : dig b i = false := by
        cases e : dig b i
        · rfl
        · exact absurd (hz i hi e) h
      simp [e, h]
theorem covP_iff {p q : PrefV} (hp : okW p.a) (hq : okW q.a) : covP p q = true ↔ p.n ≤ q.n ∧ sanP q = true ∧ sanP p = true ∧ p.a.v = q.a.v ∧ ∀ i : Nat, (i : Int) < p.n → dig p.a i = dig q.a i := by
  unfold covP
  rw [Bool.and_eq_true, Bool.and_eq_true, decide_eq_true_eq, conP_iff hp hq]
theorem okW_of (a : AddrV) (n : Int) : okW (ofP a n).a := okW_mask _ _
theorem sanP_of {a : AddrV} (ha : okW a) (n : Int) : sanP (ofP a n) = true := by
  rw [sanP_iff (okW_of a n)]
  have hb := clamp_bd n a.v
  refine ⟨hb.1, by rw [← wd_wid]; exact hb.2, fun i hi hd => ?_⟩
  have hd : dig (maskA a (mx 0 (mn n (wid a.v)))) i = true := hd
  rw [dig_mask ha _ i hi, clamp_of hb.1 hb.2] at hd
  simp only [Bool.and_eq_true, decide_eq_true_eq] at hd
  exact hd.2
end Go.Proofs.Ytapiffkeclnbbaa.D
