import Derived.Test.YtapiffkeclnbbaaProg
import Derived.Below
import Derived.Deep.Draws
import Derived.Deep.AppendLies
import Derived.Maps.AppendAt
import Derived.OwnWalk
import Derived.Laws.MakeOwn
import Derived.Laws.OwnMore
import Derived.Deep.OwnRows
import Derived.Tactics
import Derived.Laws.Slices
import Derived.WalkKit
import Derived.KernelRfl
import Derived.RowKit3
import Derived.Deep.LoopGhost
import Derived.Deep.QuietTactic
import Derived.BigQuiet
import Derived.WideLaws
import Derived.Deep.DeepCutAuto
import Derived.Deep.CutBlock
import Derived.Deep.RegionHeld3
import Derived.Deep.RegionWith
import Derived.Deep.RegionLaw
import Derived.Laws.Rows
import Derived.ArgAppend
import Derived.OrdersHeld
import Derived.Laws.BitsLemmas
import Derived.Laws.StructEq
import Derived.RowKit
import Derived.Lib.Hide
import Derived.Lib.SliceRun
import Derived.StillTail
import Derived.Test.YtapiffkeclnbbaaB0
import Derived.Test.YtapiffkeclnbbaaB1
import Derived.Test.YtapiffkeclnbbaaA1
import Derived.Test.YtapiffkeclnbbaaA2
/-! Digits of words: the bits of an unsigned 64-bit number, and what Go's operations make of them. -/
set_option linter.unusedVariables false
set_option linter.unusedSimpArgs false
namespace Go.Proofs.Ytapiffkeclnbbaa.D
open Go.RowKit Go.Proofs.Ytapiffkeclnbbaa.B0 Go.Proofs.Ytapiffkeclnbbaa.A1 Go.Proofs.Ytapiffkeclnbbaa.A2
/-- bit j of a number -/
def tb (x : Int) (j : Nat) : Bool := x.toNat.testBit j
def u64 (x : Int) : Prop := 0 ≤ x ∧ x < 18446744073709551616
theorem u64_bits (b : BinOp) (x y : Int) : u64 (Go.bits b .u64 x y) := bits_range b x y
theorem toNat_of {x : Int} (h : u64 x) : (BitVec.ofInt 64 x).toNat = x.toNat := by
  unfold u64 at h
  rw [BitVec.toNat_ofInt]
  omega
theorem lt_of {x : Int} (h : u64 x) : x.toNat < 2 ^ 64 := by unfold u64 at h; omega
theorem wrap_nat {n : Nat} (h : n < 2 ^ 64) : (IntKind.u64.wrap (n : Int)).toNat = n := by rw [wrap_u64]; omega
theorem tb_and {x y : Int} (hx : u64 x) (hy : u64 y) (j : Nat) : tb (Go.bits .and .u64 x y) j = (tb x j && tb y j) := by
  have e : Go.bits .and .u64 x y = IntKind.u64.wrap ((BitVec.ofInt 64 x &&& BitVec.ofInt 64 y).toNat : Int) := rfl
  unfold tb
  rw [e, wrap_nat (BitVec.isLt _), BitVec.toNat_and, toNat_of hx, toNat_of hy, Nat.testBit_and]
theorem tb_or {x y : Int} (hx : u64 x) (hy : u64 y) (j : Nat) : tb (Go.bits .or .u64 x y) j = (tb x j || tb y j) := by
  have e : Go.bits .or .u64 x y = IntKind.u64.wrap ((BitVec.ofInt 64 x ||| BitVec.ofInt 64 y).toNat : Int) := rfl
  unfold tb
  rw [e, wrap_nat (BitVec.isLt _), BitVec.toNat_or, toNat_of hx, toNat_of hy, Nat.testBit_or]
theorem tb_xor {x y : Int} (hx : u64 x) (hy : u64 y) (j : Nat) : tb (Go.bits .xor .u64 x y) j = (tb x j ^^ tb y j) := by
  have e : Go.bits .xor .u64 x y = IntKind.u64.wrap ((BitVec.ofInt 64 x ^^^ BitVec.ofInt 64 y).toNat : Int) := rfl
  unfold tb
  rw [e, wrap_nat (BitVec.isLt _), BitVec.toNat_xor, toNat_of hx, toNat_of hy, Nat.testBit_xor]
theorem tb_andNot {x y : Int} (hx : u64 x) (hy : u64 y) (j : Nat) (hj : j < 64) : tb (Go.bits .andNot .u64 x y) j = (tb x j && !tb y j) := by
  have e : Go.bits .andNot .u64 x y = IntKind.u64.wrap ((BitVec.ofInt 64 x &&& ~~~BitVec.ofInt 64 y).toNat : Int) := rfl
  unfold tb
  rw [e, wrap_nat (BitVec.isLt _), BitVec.toNat_and, Nat.testBit_and, toNat_of hx]
  congr 1
  have h2 : (~~~BitVec.ofInt 64 y).toNat.testBit j = (~~~BitVec.ofInt 64 y).getLsbD j := rfl
  rw [h2, BitVec.getLsbD_not]
  have h3 : (BitVec.ofInt 64 y).getLsbD j = y.toNat.testBit j := by
    show (BitVec.ofInt 64 y).toNat.testBit j = _
    rw [toNat_of hy]
  rw [h3]
  simp [hj]
theorem tb_ge {x : Int} (hx : u64 x) {j : Nat} (hj : 64 ≤ j) : tb x j = false :=
  Nat.testBit_lt_two_pow (Nat.lt_of_lt_of_le (lt_of hx) (Nat.pow_le_pow_right (by omega) hj))
theorem tb_ext {x y : Int} (hx : u64 x) (hy : u64 y) (h : ∀ j, j < 64 → tb x j = tb y j) : x = y := by
  have e : x.toNat = y.toNat := Nat.eq_of_testBit_eq fun j => by
    rcases Nat.lt_or_ge j 64 with hj | hj
    · exact h j hj
    · exact (tb_ge hx hj).trans (tb_ge hy hj).symm
  unfold u64 at hx hy
  omega
theorem u64_zero : u64 0 := by simp [u64]
theorem tb_zero (j : Nat) : tb 0 j = false := by simp [tb]
theorem u64_high {n : Int} (h0 : 0 ≤ n) (h1 : n ≤ 64) : u64 (highV n) := by
  unfold highV
  split
  · exact u64_zero
  · unfold u64; rw [wrap_u64]; omega
theorem tb_high {n : Int} (h0 : 0 ≤ n) (h1 : n ≤ 64) (j : Nat) (hj : j < 64) : tb (highV n) j = decide (64 - n ≤ j) := by
  unfold highV
  by_cases hn : n = 0
  · rw [if_pos hn, tb_zero, hn]
    symm
    simp
    omega
  · rw [if_neg hn]
    obtain ⟨m, hm, hm2⟩ : ∃ m : Nat, (64 - n).toNat = m ∧ m < 64 := ⟨_, rfl, by omega⟩
    have hm3 : 64 - n = (m : Int) := by omega
    rw [hm, hm3]
    unfold tb
    rw [wrap_u64]
    have e : ((18446744073709551615 * 2 ^ m : Int) % 18446744073709551616).toNat = (18446744073709551615 * 2 ^ m) % 18446744073709551616 := by
      have e1 : (18446744073709551615 * 2 ^ m : Int) = ((18446744073709551615 * 2 ^ m : Nat) : Int) := by rw [Int.natCast_mul, Int.natCast_pow]; rfl
      rw [e1]
      omega
    rw [e, show (18446744073709551616 : Nat) = 2 ^ 64 from rfl, Nat.testBit_mod_two_pow, Nat.testBit_mul_two_pow, show (18446744073709551615 : Nat) = 2 ^ 64 - 1 from rfl, Nat.testBit_two_pow_sub_one]
    have h64 : j - m < 64 := by omega
    simp [hj, h64]
end Go.Proofs.Ytapiffkeclnbbaa.D
