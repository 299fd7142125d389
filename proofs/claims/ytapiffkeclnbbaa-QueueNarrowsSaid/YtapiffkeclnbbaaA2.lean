import Derived.Test.YtapiffkeclnbbaaProg
import Derived.Below
import Derived.Deep.Draws
import Derived.Deep.AppendLies
import Derived.Maps.AppendAt
import Derived.OwnWalk
import Derived.Laws.MakeOwn
import Derived.Laws.OwnMore
import Derived.Deep.OwnRows
import Derived.Tactics
import Derived.Laws.Slices
import Derived.WalkKit
import Derived.KernelRfl
import Derived.RowKit3
import Derived.Deep.LoopGhost
import Derived.Deep.QuietTactic
import Derived.BigQuiet
import Derived.WideLaws
import Derived.Deep.DeepCutAuto
import Derived.Deep.CutBlock
import Derived.Deep.RegionHeld3
import Derived.Deep.RegionWith
import Derived.Deep.RegionLaw
import Derived.Laws.Rows
import Derived.ArgAppend
import Derived.OrdersHeld
import Derived.Laws.BitsLemmas
import Derived.Laws.StructEq
import Derived.RowKit
import Derived.Lib.Hide
import Derived.Lib.SliceRun
import Derived.StillTail
import Derived.Test.YtapiffkeclnbbaaB0
import Derived.Test.YtapiffkeclnbbaaB1
import Derived.Test.YtapiffkeclnbbaaA1
set_option linter.unusedVariables false
set_option linter.unusedSimpArgs false
namespace Go.Proofs.Ytapiffkeclnbbaa.A2
open Go.RowKit Go.Proofs.Ytapiffkeclnbbaa.B0 Go.Proofs.Ytapiffkeclnbbaa.A1
attribute [local go_sem] max2_mx min2_mn maxOf2 minOf2 minOf3
attribute [local go_sem high] eqA34

/-- an address as a value; a prefix; a route -/
structure AddrV where
  h : Int
  l : Int
  v : Bool
structure PrefV where
  a : AddrV
  n : Int
structure RouteV where
  p : PrefV
  hop : Int

def maskA (a : AddrV) (n : Int) : AddrV := ⟨Go.bits .andNot .u64 (readH a.h a.v) (tailW 0 a.v n), Go.bits .andNot .u64 (readL a.l a.v) (tailW 1 a.v n), a.v⟩

set_option maxHeartbeats 400000 in
set_option maxRecDepth 100000 in
theorem addr_Mask (a : AddrV) (n : Int) (w : World) : Calls Try.prog 133 #[.agg #[.int .u64 a.h, .int .u64 a.l, .bool a.v], .int .i64 n] w fun e w' => e = .returned (.agg #[.int .u64 (maskA a n).h, .int .u64 (maskA a n).l, .bool (maskA a n).v]) ∧ Kept w w' := by
  obtain ⟨h, l, v⟩ := a
  have hu := Try.underlying34
  have hu2 := Try.underlying207
  have i0 := idx0
  have i1 := idx1
  go_enter Try.func133, Try.ntmps133
  go_wp2_with fail
  refine (addr_read _ _ _ _).mono ?_
  rintro e w1 ⟨rfl, hb1⟩
  have B0 := ((Blk.new w _ _).alloc _).call hb1.out
  have B1 := (Blk.new2 w _ _ _).call hb1.out
  have hK := (((Kept.refl w).alloc _).alloc _).call hb1.out
  have hz : w.heap.size + 1 + 1 ≤ w1.heap.size := by simpa using hb1.size
  clear hb1
  have F0 := fun o => (B0.alloc o).facts
  simp only [forall_and] at F0
  obtain ⟨c0, f0⟩ := F0
  go_wp2_with fail
  refine (addr_tail _ _ _ _ _).mono ?_
  rintro e w2 ⟨rfl, hb2⟩
  have BW := (Blk.new w1 _ _).call hb2.out
  have B0' := (B0.alloc _).call hb2.out
  have B1' := (B1.alloc _).call hb2.out
  have hK2 := (hK.alloc _).call hb2.out
  clear hb2 c0 f0 hK B0 B1
  obtain ⟨c0, f0⟩ := B0'.facts
  obtain ⟨cw, fw⟩ := BW.facts
  go_wp2_with fail
  refine wp_loop_rounds 3 ?_
  rw [rounds_succ]
  go_wp2_with fail
  rw [rounds_succ]
  go_wp2_with fail
  rw [rounds_succ]
  go_wp2_with fail
  refine (addr_of _ _ _ _).mono ?_
  rintro e w3 ⟨rfl, hb3⟩
  have B1 := ((B1'.far (by simp; omega) _).far (by simp; omega) _).call hb3.out
  have hK3 := ((hK2.set (by omega)).set (by omega)).call hb3.out
  obtain ⟨c1, f1⟩ := B1.facts
  clear hb3
  go_wp2_with fail
  exact ret_blk rfl rfl (((B1.put 0 _ rfl).put 1 _ rfl).put 2 _ rfl) hu rfl (by kernel_rfl) rfl ⟨rfl, ((hK3.set (by omega)).set (by omega)).set (by omega)⟩

def saneA (a : AddrV) : Bool := readH a.h a.v == a.h && readL a.l a.v == a.l

set_option maxHeartbeats 400000 in
set_option maxRecDepth 100000 in
theorem addr_Sane (a : AddrV) (w : World) : Calls Try.prog 141 #[.agg #[.int .u64 a.h, .int .u64 a.l, .bool a.v]] w fun e w' => e = .returned (.bool (saneA a)) ∧ Kept w w' := by
  obtain ⟨h, l, v⟩ := a
  have hu := Try.underlying34
  have hu2 := Try.underlying207
  go_enter Try.func141, Try.ntmps141
  go_wp2_with fail
  obtain ⟨W, hW⟩ : ∃ W, w.alloc (.cells #[.int .u64 h, .int .u64 l, .bool v] 34) = W := ⟨_, rfl⟩
  have B0 : Blk W w.heap.size 34 #[.int .u64 h, .int .u64 l, .bool v] := hW ▸ Blk.new _ _ _
  have hK : Kept w W := hW ▸ (Kept.refl _).alloc _
  rw [hW]
  clear hW
  have c0 := B0.cell 0
  have c1 := B0.cell 1
  have c2 := B0.cell 2
  go_region_held3 (fun W' => W'.cell? ⟨w.heap.size, 0, none⟩ = some (.int .u64 h) ∧ W'.cell? ⟨w.heap.size, 1, none⟩ = some (.int .u64 l) ∧ W'.cell? ⟨w.heap.size, 2, none⟩ = some (.bool v)) (first | go_keep | assumption)
    (first
      | (go_at_call 149; refine (addr_read _ _ _ _).mono ?_; rintro e w1 ⟨rfl, hb1⟩; have B1 := B0.drew.call hb1.out; have hK1 := hK.drew.call hb1.out; clear hb1; have s1 : w1.cell? ⟨w.heap.size, 0, none⟩ = some (.int .u64 h) ∧ w1.cell? ⟨w.heap.size, 1, none⟩ = some (.int .u64 l) ∧ w1.cell? ⟨w.heap.size, 2, none⟩ = some (.bool v) := ⟨B1.cell 0, B1.cell 1, B1.cell 2⟩)
      | (go_at_call 139; refine (addr_of _ _ _ _).mono ?_; rintro e w2 ⟨rfl, hb2⟩; have B2 := B1.call hb2.out; have hK2 := hK1.call hb2.out; clear hb2; have s2 : w2.cell? ⟨w.heap.size, 0, none⟩ = some (.int .u64 h) ∧ w2.cell? ⟨w.heap.size, 1, none⟩ = some (.int .u64 l) ∧ w2.cell? ⟨w.heap.size, 2, none⟩ = some (.bool v) := ⟨B2.cell 0, B2.cell 1, B2.cell 2⟩))
  go_wp2
  go_ret
  exact ⟨rfl, hK2⟩

/-- is there such a digit? -/
def isD (v : Bool) (i : Int) : Bool := decide (0 ≤ i) && decide (i < wid v)

set_option maxHeartbeats 400000 in
theorem addr_is (h l : Int) (v : Bool) (i : Int) (w : World) : Calls Try.prog 152 #[.agg #[.int .u64 h, .int .u64 l, .bool v], .int .i64 i] w fun e w' => e = .returned (.bool (isD v i)) ∧ Kept w w' := by
  have hu := Try.underlying34
  by_cases h0 : 0 ≤ i
  · have hd : decide (0 ≤ i) = true := decide_eq_true h0
    go_enter Try.func152, Try.ntmps152
    go_wp2_with fail
    refine (addr_Width _ _).mono ?_
    rintro e w' ⟨rfl, rfl⟩
    go_wp2_with fail
    go_ret
    exact ⟨by simp [isD, h0], (Kept.refl _).alloc _⟩
  · have hd : decide (0 ≤ i) = false := decide_eq_false h0
    have hs : isD v i = false := by simp [isD, h0]
    have Hs := Lib.hid hs
    clear h0 hs
    go_enter Try.func152, Try.ntmps152
    go_wp2_with fail
    go_ret
    exact ⟨by simp [Hs.out], (Kept.refl _).alloc _⟩

theorem bits_range (b : BinOp) (x y : Int) : 0 ≤ Go.bits b .u64 x y ∧ Go.bits b .u64 x y < 18446744073709551616 := by
  unfold Go.bits
  split <;> first | (simp only [wrap_u64]; omega) | omega
theorem and_one (x : Int) (h0 : 0 ≤ x) (h1 : x < 18446744073709551616) : Go.bits .and .u64 x 1 = x % 2 := by
  have h := bits_mask .u64 64 (by decide) (fun n hn hn' => by rw [wrap_u64]; omega) 1 (by omega) x h0 (by omega)
  simpa using h

/-- digit i, 0 where there is none -/
def bitA (a : AddrV) (i : Int) : Int := if isD a.v i = true then (if i < 64 then readH a.h a.v / 2 ^ (63 - i).toNat % 2 else readL a.l a.v / 2 ^ (127 - i).toNat % 2) else 0
theorem bitA_none {a : AddrV} {i : Int} (h : isD a.v i = false) : bitA a i = 0 := by simp [bitA, h]
theorem readH_range (h : Int) (v : Bool) : 0 ≤ readH h v ∧ readH h v < 18446744073709551616 := bits_range _ _ _
theorem readL_range (l : Int) (v : Bool) : 0 ≤ readL l v ∧ readL l v < 18446744073709551616 := bits_range _ _ _
theorem div_range {x : Int} (h0 : 0 ≤ x) (h1 : x < 18446744073709551616) (n : Nat) : 0 ≤ x / 2 ^ n ∧ x / 2 ^ n < 18446744073709551616 := by
  have hp : (0 : Int) < 2 ^ n := Int.pow_pos (by omega)
  exact ⟨Int.ediv_nonneg h0 (by omega), Int.lt_of_le_of_lt (Int.ediv_le_self _ h0) h1⟩

set_option maxHeartbeats 400000 in
set_option maxRecDepth 100000 in
theorem addr_Bit (a : AddrV) (i : Int) (w : World) : Calls Try.prog 114 #[.agg #[.int .u64 a.h, .int .u64 a.l, .bool a.v], .int .i64 i] w fun e w' => e = .returned (.int .i64 (bitA a i)) ∧ Kept w w' := by
  obtain ⟨h, l, v⟩ := a
  have hu := Try.underlying34
  have hu2 := Try.underlying207
  cases hd : isD v i with
  | false =>
    have Hn := Lib.hid (bitA_none (a := ⟨h, l, v⟩) hd)
    go_enter Try.func114, Try.ntmps114
    go_wp2_with fail
    refine (addr_is _ _ _ _ _).mono ?_
    rintro e w1 ⟨rfl, hb1⟩
    rw [hd]
    have hK := ((Kept.refl w).alloc _).call hb1.out
    clear hb1
    go_wp2_with fail
    go_ret
    exact ⟨by simp [Hn.out], hK⟩
  | true =>
    have hi : 0 ≤ i ∧ i < wid v := by simpa [isD] using hd
    have hw := wid_bd v
    by_cases h64 : i < 64
    · have hv : bitA ⟨h, l, v⟩ i = readH h v / 2 ^ (63 - i).toNat % 2 := by simp [bitA, hd, h64]
      have hr := readH_range h v
      have Hv := Lib.hid hv
      have hx := div_range hr.1 hr.2 (63 - i).toNat
      have ho := and_one (readH h v / 2 ^ (63 - i).toNat) hx.1 hx.2
      have hlo : 0 ≤ i := hi.1
      have hup : i < 128 := by omega
      have hm2 : 0 ≤ readH h v / 2 ^ (63 - i).toNat % 2 ∧ readH h v / 2 ^ (63 - i).toNat % 2 < 2 := by omega
      obtain ⟨hm0, hm1⟩ := hm2
      have hq : i / 64 = 0 := by omega
      have hm : i % 64 = i - 64 * 0 := by omega
      clear hv hi hr hw hx
      go_enter Try.func114, Try.ntmps114
      go_wp2_with fail
      refine (addr_is _ _ _ _ _).mono ?_
      rintro e w1 ⟨rfl, hb1⟩
      rw [hd]
      have B0 := (Blk.new w _ _).call hb1.out
      have hK := ((Kept.refl w).alloc _).call hb1.out
      clear hb1
      obtain ⟨c0, f0⟩ := B0.facts
      go_wp2_with fail
      refine (addr_read _ _ _ _).mono ?_
      rintro e w2 ⟨rfl, hb2⟩
      have hK2 := hK.call hb2.out
      clear hb2 c0 f0 B0
      go_wp2_with fail
      go_ret
      exact ⟨by simp [Hv.out], hK2.alloc _⟩
    · have hv : bitA ⟨h, l, v⟩ i = readL l v / 2 ^ (63 - (i - 64)).toNat % 2 := by simp [bitA, hd, h64]; rw [show (127 : Int) - i = 63 - (i - 64) from by omega]
      have hr := readL_range l v
      have Hv := Lib.hid hv
      have hx := div_range hr.1 hr.2 (63 - (i - 64)).toNat
      have ho := and_one (readL l v / 2 ^ (63 - (i - 64)).toNat) hx.1 hx.2
      have hlo : 0 ≤ i := hi.1
      have hup : i < 128 := by omega
      have hm2 : 0 ≤ readL l v / 2 ^ (63 - (i - 64)).toNat % 2 ∧ readL l v / 2 ^ (63 - (i - 64)).toNat % 2 < 2 := by omega
      obtain ⟨hm0, hm1⟩ := hm2
      have hq : i / 64 = 1 := by omega
      have hm : i % 64 = i - 64 * 1 := by omega
      clear hv hi hr hw hx
      go_enter Try.func114, Try.ntmps114
      go_wp2_with fail
      refine (addr_is _ _ _ _ _).mono ?_
      rintro e w1 ⟨rfl, hb1⟩
      rw [hd]
      have B0 := (Blk.new w _ _).call hb1.out
      have hK := ((Kept.refl w).alloc _).call hb1.out
      clear hb1
      obtain ⟨c0, f0⟩ := B0.facts
      go_wp2_with fail
      refine (addr_read _ _ _ _).mono ?_
      rintro e w2 ⟨rfl, hb2⟩
      have hK2 := hK.call hb2.out
      clear hb2 c0 f0 B0
      go_wp2_with fail
      go_ret
      exact ⟨by simp [Hv.out], hK2.alloc _⟩

theorem and_one64 (x : Int) : (Go.bits .and .i64 x 1 == 1) = decide (x % 2 = 1) := by
  have hw : ∀ n : Int, 0 ≤ n → n < 2 → IntKind.i64.wrap n = n := fun n h0 h1 => by rw [IntKind.wrap_i64]; omega
  have h : Go.bits .and .i64 x 1 = x % 2 := by
    show IntKind.i64.wrap ((BitVec.ofInt 64 x &&& BitVec.ofInt 64 1).toNat : Int) = _
    have e : (BitVec.ofInt 64 x &&& BitVec.ofInt 64 1).toNat = (BitVec.ofInt 64 x).toNat % 2 := by
      rw [BitVec.toNat_and, show (BitVec.ofInt 64 1).toNat = 1 from rfl, Nat.and_one_is_mod]
    rw [e, BitVec.toNat_ofInt]
    have e2 : (((x % (2 ^ 64 : Nat)).toNat % 2 : Nat) : Int) = x % 2 := by omega
    rw [e2, hw _ (by omega) (by omega)]
  rw [h]
  rfl

/-- a word with another digit -/
def setW (x b : Int) (o : Bool) : Int := if o = true then Go.bits .or .u64 (Go.bits .andNot .u64 x b) b else Go.bits .andNot .u64 x b
def setA (a : AddrV) (i v : Int) : AddrV :=
  if isD a.v i = true then (if i < 64 then ⟨setW (readH a.h a.v) (IntKind.u64.wrap (2 ^ (63 - i).toNat)) (decide (v % 2 = 1)), readL a.l a.v, a.v⟩ else ⟨readH a.h a.v, setW (readL a.l a.v) (IntKind.u64.wrap (2 ^ (63 - (i - 64)).toNat)) (decide (v % 2 = 1)), a.v⟩)
  else ⟨readH a.h a.v, readL a.l a.v, a.v⟩
set_option maxHeartbeats 400000 in
set_option maxRecDepth 100000 in
theorem addr_Set_0_1 (h l : Int) (v : Bool) (i x : Int) (w : World) (hd : isD v i = true) (h64 : i < 64) (hx : (Go.bits .and .i64 x 1 == 1) = true) : Calls Try.prog 122 #[.agg #[.int .u64 h, .int .u64 l, .bool v], .int .i64 i, .int .i64 x] w fun e w' => e = .returned (.agg #[.int .u64 (⟨setW (readH h v) (IntKind.u64.wrap (2 ^ (63 - i).toNat)) true, readL l v, v⟩ : AddrV).h, .int .u64 (⟨setW (readH h v) (IntKind.u64.wrap (2 ^ (63 - i).toNat)) true, readL l v, v⟩ : AddrV).l, .bool v]) ∧ Kept w w' := by
  have hu := Try.underlying34
  have hu2 := Try.underlying207
  have hi : 0 ≤ i ∧ i < wid v := by simpa [isD] using hd
  have hw := wid_bd v
  have hlo : 0 ≤ i := hi.1
  have hup : i < 128 := by omega
  have hq : i / 64 = 0 := by omega
  have hm : i % 64 = i - 64 * 0 := by omega
  clear hi hw
  simp only [setW, if_true, Bool.false_eq_true, if_false]
  go_enter Try.func122, Try.ntmps122
  go_wp2_with fail
  refine (addr_read _ _ _ _).mono ?_
  rintro e w1 ⟨rfl, hb1⟩
  have B0 := ((Blk.new w _ _).alloc _).call hb1.out
  have B1 := (Blk.new2 w _ _ _).call hb1.out
  have hK := (((Kept.refl w).alloc _).alloc _).call hb1.out
  have hz : w.heap.size + 1 + 1 ≤ w1.heap.size := by simpa using hb1.size
  clear hb1
  have F0 := fun o => (B0.alloc o).facts
  simp only [forall_and] at F0
  obtain ⟨c0, f0⟩ := F0
  go_wp2_with fail
  refine (addr_is _ _ _ _ _).mono ?_
  rintro e w2 ⟨rfl, hb2⟩
  rw [hd]
  have BW := (Blk.new w1 _ _).call hb2.out
  have B0' := (B0.alloc _).call hb2.out
  have B1' := (B1.alloc _).call hb2.out
  have hK2 := (hK.alloc _).call hb2.out
  clear hb2 c0 f0 hK B0 B1
  obtain ⟨c0, f0⟩ := B0'.facts
  obtain ⟨cw, fw⟩ := BW.facts
  go_wp2_with fail
  refine (addr_of _ _ _ _).mono ?_
  rintro e w3 ⟨rfl, hb3⟩
  have B1 := ((B1'.far (by simp; omega) _).far (by simp; omega) _).call hb3.out
  have hK3 := ((hK2.set (by omega)).set (by omega)).call hb3.out
  obtain ⟨c1, f1⟩ := B1.facts
  clear hb3
  go_wp2_with fail
  exact ret_blk rfl rfl (((B1.put 0 _ rfl).put 1 _ rfl).put 2 _ rfl) hu rfl (by kernel_rfl) rfl ⟨rfl, ((hK3.set (by omega)).set (by omega)).set (by omega)⟩
set_option maxHeartbeats 400000 in
set_option maxRecDepth 100000 in
theorem addr_Set_0_0 (h l : Int) (v : Bool) (i x : Int) (w : World) (hd : isD v i = true) (h64 : i < 64) (hx : (Go.bits .and .i64 x 1 == 1) = false) : Calls Try.prog 122 #[.agg #[.int .u64 h, .int .u64 l, .bool v], .int .i64 i, .int .i64 x] w fun e w' => e = .returned (.agg #[.int .u64 (⟨setW (readH h v) (IntKind.u64.wrap (2 ^ (63 - i).toNat)) false, readL l v, v⟩ : AddrV).h, .int .u64 (⟨setW (readH h v) (IntKind.u64.wrap (2 ^ (63 - i).toNat)) false, readL l v, v⟩ : AddrV).l, .bool v]) ∧ Kept w w' := by
  have hu := Try.underlying34
  have hu2 := Try.underlying207
  have hi : 0 ≤ i ∧ i < wid v := by simpa [isD] using hd
  have hw := wid_bd v
  have hlo : 0 ≤ i := hi.1
  have hup : i < 128 := by omega
  have hq : i / 64 = 0 := by omega
  have hm : i % 64 = i - 64 * 0 := by omega
  clear hi hw
  simp only [setW, if_true, Bool.false_eq_true, if_false]
  go_enter Try.func122, Try.ntmps122
  go_wp2_with fail
  refine (addr_read _ _ _ _).mono ?_
  rintro e w1 ⟨rfl, hb1⟩
  have B0 := ((Blk.new w _ _).alloc _).call hb1.out
  have B1 := (Blk.new2 w _ _ _).call hb1.out
  have hK := (((Kept.refl w).alloc _).alloc _).call hb1.out
  have hz : w.heap.size + 1 + 1 ≤ w1.heap.size := by simpa using hb1.size
  clear hb1
  have F0 := fun o => (B0.alloc o).facts
  simp only [forall_and] at F0
  obtain ⟨c0, f0⟩ := F0
  go_wp2_with fail
  refine (addr_is _ _ _ _ _).mono ?_
  rintro e w2 ⟨rfl, hb2⟩
  rw [hd]
  have BW := (Blk.new w1 _ _).call hb2.out
  have B0' := (B0.alloc _).call hb2.out
  have B1' := (B1.alloc _).call hb2.out
  have hK2 := (hK.alloc _).call hb2.out
  clear hb2 c0 f0 hK B0 B1
  obtain ⟨c0, f0⟩ := B0'.facts
  obtain ⟨cw, fw⟩ := BW.facts
  go_wp2_with fail
  refine (addr_of _ _ _ _).mono ?_
  rintro e w3 ⟨rfl, hb3⟩
  have B1 := (B1'.far (by simp; omega) _).call hb3.out
  have hK3 := (hK2.set (by omega)).call hb3.out
  obtain ⟨c1, f1⟩ := B1.facts
  clear hb3
  go_wp2_with fail
  exact ret_blk rfl rfl (((B1.put 0 _ rfl).put 1 _ rfl).put 2 _ rfl) hu rfl (by kernel_rfl) rfl ⟨rfl, ((hK3.set (by omega)).set (by omega)).set (by omega)⟩
set_option maxHeartbeats 400000 in
set_option maxRecDepth 100000 in
theorem addr_Set_1_1 (h l : Int) (v : Bool) (i x : Int) (w : World) (hd : isD v i = true) (h64 : ¬ i < 64) (hx : (Go.bits .and .i64 x 1 == 1) = true) : Calls Try.prog 122 #[.agg #[.int .u64 h, .int .u64 l, .bool v], .int .i64 i, .int .i64 x] w fun e w' => e = .returned (.agg #[.int .u64 (⟨readH h v, setW (readL l v) (IntKind.u64.wrap (2 ^ (63 - (i - 64)).toNat)) true, v⟩ : AddrV).h, .int .u64 (⟨readH h v, setW (readL l v) (IntKind.u64.wrap (2 ^ (63 - (i - 64)).toNat)) true, v⟩ : AddrV).l, .bool v]) ∧ Kept w w' := by
  have hu := Try.underlying34
  have hu2 := Try.underlying207
  have hi : 0 ≤ i ∧ i < wid v := by simpa [isD] using hd
  have hw := wid_bd v
  have hlo : 0 ≤ i := hi.1
  have hup : i < 128 := by omega
  have hq : i / 64 = 1 := by omega
  have hm : i % 64 = i - 64 * 1 := by omega
  clear hi hw
  simp only [setW, if_true, Bool.false_eq_true, if_false]
  go_enter Try.func122, Try.ntmps122
  go_wp2_with fail
  refine (addr_read _ _ _ _).mono ?_
  rintro e w1 ⟨rfl, hb1⟩
  have B0 := ((Blk.new w _ _).alloc _).call hb1.out
  have B1 := (Blk.new2 w _ _ _).call hb1.out
  have hK := (((Kept.refl w).alloc _).alloc _).call hb1.out
  have hz : w.heap.size + 1 + 1 ≤ w1.heap.size := by simpa using hb1.size
  clear hb1
  have F0 := fun o => (B0.alloc o).facts
  simp only [forall_and] at F0
  obtain ⟨c0, f0⟩ := F0
  go_wp2_with fail
  refine (addr_is _ _ _ _ _).mono ?_
  rintro e w2 ⟨rfl, hb2⟩
  rw [hd]
  have BW := (Blk.new w1 _ _).call hb2.out
  have B0' := (B0.alloc _).call hb2.out
  have B1' := (B1.alloc _).call hb2.out
  have hK2 := (hK.alloc _).call hb2.out
  clear hb2 c0 f0 hK B0 B1
  obtain ⟨c0, f0⟩ := B0'.facts
  obtain ⟨cw, fw⟩ := BW.facts
  go_wp2_with fail
  refine (addr_of _ _ _ _).mono ?_
  rintro e w3 ⟨rfl, hb3⟩
  have B1 := ((B1'.far (by simp; omega) _).far (by simp; omega) _).call hb3.out
  have hK3 := ((hK2.set (by omega)).set (by omega)).call hb3.out
  obtain ⟨c1, f1⟩ := B1.facts
  clear hb3
  go_wp2_with fail
  exact ret_blk rfl rfl (((B1.put 0 _ rfl).put 1 _ rfl).put 2 _ rfl) hu rfl (by kernel_rfl) rfl ⟨rfl, ((hK3.set (by omega)).set (by omega)).set (by omega)⟩
set_option maxHeartbeats 400000 in
set_option maxRecDepth 100000 in
theorem addr_Set_1_0 (h l : Int) (v : Bool) (i x : Int) (w : World) (hd : isD v i = true) (h64 : ¬ i < 64) (hx : (Go.bits .and .i64 x 1 == 1) = false) : Calls Try.prog 122 #[.agg #[.int .u64 h, .int .u64 l, .bool v], .int .i64 i, .int .i64 x] w fun e w' => e = .returned (.agg #[.int .u64 (⟨readH h v, setW (readL l v) (IntKind.u64.wrap (2 ^ (63 - (i - 64)).toNat)) false, v⟩ : AddrV).h, .int .u64 (⟨readH h v, setW (readL l v) (IntKind.u64.wrap (2 ^ (63 - (i - 64)).toNat)) false, v⟩ : AddrV).l, .bool v]) ∧ Kept w w' := by
  have hu := Try.underlying34
  have hu2 := Try.underlying207
  have hi : 0 ≤ i ∧ i < wid v := by simpa [isD] using hd
  have hw := wid_bd v
  have hlo : 0 ≤ i := hi.1
  have hup : i < 128 := by omega
  have hq : i / 64 = 1 := by omega
  have hm : i % 64 = i - 64 * 1 := by omega
  clear hi hw
  simp only [setW, if_true, Bool.false_eq_true, if_false]
  go_enter Try.func122, Try.ntmps122
  go_wp2_with fail
  refine (addr_read _ _ _ _).mono ?_
  rintro e w1 ⟨rfl, hb1⟩
  have B0 := ((Blk.new w _ _).alloc _).call hb1.out
  have B1 := (Blk.new2 w _ _ _).call hb1.out
  have hK := (((Kept.refl w).alloc _).alloc _).call hb1.out
  have hz : w.heap.size + 1 + 1 ≤ w1.heap.size := by simpa using hb1.size
  clear hb1
  have F0 := fun o => (B0.alloc o).facts
  simp only [forall_and] at F0
  obtain ⟨c0, f0⟩ := F0
  go_wp2_with fail
  refine (addr_is _ _ _ _ _).mono ?_
  rintro e w2 ⟨rfl, hb2⟩
  rw [hd]
  have BW := (Blk.new w1 _ _).call hb2.out
  have B0' := (B0.alloc _).call hb2.out
  have B1' := (B1.alloc _).call hb2.out
  have hK2 := (hK.alloc _).call hb2.out
  clear hb2 c0 f0 hK B0 B1
  obtain ⟨c0, f0⟩ := B0'.facts
  obtain ⟨cw, fw⟩ := BW.facts
  go_wp2_with fail
  refine (addr_of _ _ _ _).mono ?_
  rintro e w3 ⟨rfl, hb3⟩
  have B1 := (B1'.far (by simp; omega) _).call hb3.out
  have hK3 := (hK2.set (by omega)).call hb3.out
  obtain ⟨c1, f1⟩ := B1.facts
  clear hb3
  go_wp2_with fail
  exact ret_blk rfl rfl (((B1.put 0 _ rfl).put 1 _ rfl).put 2 _ rfl) hu rfl (by kernel_rfl) rfl ⟨rfl, ((hK3.set (by omega)).set (by omega)).set (by omega)⟩
end Go.Proofs.Ytapiffkeclnbbaa.A2
