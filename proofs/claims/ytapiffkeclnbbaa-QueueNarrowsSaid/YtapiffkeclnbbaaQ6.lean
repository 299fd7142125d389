import Derived.Test.YtapiffkeclnbbaaProg
import Derived.Below
import Derived.Deep.Draws
import Derived.Deep.AppendLies
import Derived.Maps.AppendAt
import Derived.OwnWalk
import Derived.Laws.MakeOwn
import Derived.Laws.OwnMore
import Derived.Deep.OwnRows
import Derived.Tactics
import Derived.Laws.Slices
import Derived.WalkKit
import Derived.KernelRfl
import Derived.RowKit3
import Derived.Deep.LoopGhost
import Derived.Deep.QuietTactic
import Derived.BigQuiet
import Derived.WideLaws
import Derived.Deep.DeepCutAuto
import Derived.Deep.CutBlock
import Derived.Deep.RegionHeld3
import Derived.Deep.RegionWith
import Derived.Deep.RegionLaw
import Derived.Laws.Rows
import Derived.ArgAppend
import Derived.OrdersHeld
import Derived.Laws.BitsLemmas
import Derived.Laws.StructEq
import Derived.RowKit
import Derived.Lib.Hide
import Derived.Lib.SliceRun
import Derived.StillTail
import Derived.Test.YtapiffkeclnbbaaB0
import Derived.Test.YtapiffkeclnbbaaB1
import Derived.Test.YtapiffkeclnbbaaB2
import Derived.Test.YtapiffkeclnbbaaB3
import Derived.Test.YtapiffkeclnbbaaB4
import Derived.Test.YtapiffkeclnbbaaB5
import Derived.Test.YtapiffkeclnbbaaB6
import Derived.Test.YtapiffkeclnbbaaB7
import Derived.Test.YtapiffkeclnbbaaB8
import Derived.Test.YtapiffkeclnbbaaA1
import Derived.Test.YtapiffkeclnbbaaA2
import Derived.Test.YtapiffkeclnbbaaA3
import Derived.Test.YtapiffkeclnbbaaA4
import Derived.Test.YtapiffkeclnbbaaA5
import Derived.Test.YtapiffkeclnbbaaA6
import Derived.Test.YtapiffkeclnbbaaQ1
import Derived.Test.YtapiffkeclnbbaaQ2
import Derived.Test.YtapiffkeclnbbaaQ3
import Derived.Test.YtapiffkeclnbbaaQ4
import Derived.Test.YtapiffkeclnbbaaQ5
/-! A queue as a value; Sane of whatever queue; New; Pending. -/
set_option linter.unusedVariables false
set_option linter.unusedSimpArgs false
namespace Go.Proofs.Ytapiffkeclnbbaa.Q
open Go.RowKit Go.Proofs.Ytapiffkeclnbbaa.B0 Go.Proofs.Ytapiffkeclnbbaa.A2

/-- the value v is the queue of the entries xs with the bound bd, in the world w -/
def IsQ (w : World) (v : Value) (xs : List EntryV) (bd : Int) : Prop :=
  ∃ A cap, v = .agg #[.slice A xs.length cap, .int .i64 bd] ∧ xs.length ≤ cap ∧ Rd w w.heap.size 9 encE A xs ∧ (xs = [] ∨ ∃ b off, A = some ⟨b, off, none⟩ ∧ Tb w b 48)
section
variable {w w' : World} {v : Value} {xs : List EntryV} {bd : Int}
theorem IsQ.below {B : Nat} (h : IsQ w v xs bd) (hB : w.heap.size ≤ B) (hb : Below B w w') : IsQ w' v xs bd := by
  obtain ⟨A, cap, e, hc, hr, ht⟩ := h
  refine ⟨A, cap, e, hc, (hr.below (hb.mono hB)).more hb.size, ?_⟩
  rcases ht with h | ⟨b, off, e, h⟩
  · exact .inl h
  · exact .inr ⟨b, off, e, h.same (hb.block b (Nat.lt_of_lt_of_le h.lt hB))⟩
theorem IsQ.call (h : IsQ w v xs bd) (hb : Below w.heap.size w w') : IsQ w' v xs bd := h.below (Nat.le_refl _) hb
theorem IsQ.alloc (h : IsQ w v xs bd) (o : Obj) : IsQ (w.alloc o) v xs bd := h.call ((Below.refl _ _).alloc (Nat.le_refl _) _)
theorem IsQ.drew (h : IsQ w v xs bd) : IsQ w.drew v xs bd := h
/-- a store into a block of another type -/
theorem IsQ.set {g j : Nat} {t : TypeId} (h : IsQ w v xs bd) (hg : Tb w g t) (ht : 48 ≠ t) (u : Value) : IsQ (w.setCell ⟨g, j, none⟩ u) v xs bd := by
  obtain ⟨A, cap, e, hc, hr, hty⟩ := h
  have hz : (w.setCell ⟨g, j, none⟩ u).heap.size = w.heap.size := by simp [World.setCell]
  rcases hty with h | ⟨b, off, rfl, h⟩
  · exact ⟨A, cap, e, hc, .inl h, .inl h⟩
  · refine ⟨_, cap, e, hc, ?_, .inr ⟨b, off, rfl, h.set _⟩⟩
    rw [hz]
    have hne := h.ne hg ht
    rcases hr with hr | ⟨b', off', e', hb, hcs⟩
    · exact .inl hr
    · injection e' with e'
      injection e' with e1 e2
      subst e1 e2
      refine .inr ⟨b, off, rfl, hb, fun i hi j' u' hu => ?_⟩
      rw [World.cell?_setCell_other w ⟨g, j, none⟩ _ u (fun e => hne (congrArg Addr.block e).symm)]
      exact hcs i hi j' u' hu
theorem IsQ.nil (w : World) (bd : Int) : IsQ w (.agg #[.slice none 0 0, .int .i64 bd]) [] bd := ⟨none, 0, rfl, Nat.le_refl _, .inl rfl, .inl rfl⟩
theorem IsQ.own {base n : Nat} (h : w.ownsRow base 48 9 v n (xs.flatMap encE)) (hn : n = xs.length) : IsQ w (.agg #[v, .int .i64 bd]) xs bd := by
  obtain ⟨A, cap, rfl, hc, _, hr⟩ := Rd.of_own encE_len h hn
  subst hn
  refine ⟨A, cap, rfl, hc, hr, ?_⟩
  rcases h.2 with ⟨_, h0⟩ | ⟨g, cap', cur, hv, _, hg, _⟩
  · exact .inl (List.length_eq_zero_iff.1 h0)
  · injection hv with hv
    exact .inr ⟨g, 0, hv, cur, (0, 0), hg⟩
end
theorem saneQ_of {xs : List EntryV} {bd : Int} (h0 : 0 ≤ bd) (h1 : bd ≤ 1024) (h2 : (xs.length : Int) ≤ bd) : saneQ xs bd = allE xs xs.length := by simp [saneQ, h0, h1, h2]
theorem saneQ_bd {xs : List EntryV} {bd : Int} (h : saneQ xs bd = true) : 0 ≤ bd ∧ bd ≤ 1024 ∧ (xs.length : Int) ≤ bd ∧ allE xs xs.length = true := by
  simp only [saneQ, Bool.and_eq_true, decide_eq_true_eq] at h
  exact h

set_option maxHeartbeats 1000000 in
set_option maxRecDepth 100000 in
theorem queue_Sane (v : Value) (xs : List EntryV) (bd : Int) (w : World) (hq : IsQ w v xs bd) (hlen : xs.length ≤ 1024) :
    Calls Try.prog 30 #[v] w fun e w' => e = .returned (.bool (saneQ xs bd)) ∧ Kept w w' := by
  obtain ⟨A, cap, rfl, hc, hr, hty⟩ := hq
  by_cases h0 : 0 ≤ bd
  · by_cases h1 : bd ≤ 1024
    · by_cases h2 : (xs.length : Int) ≤ bd
      · rw [saneQ_of h0 h1 h2]
        exact queue_Sane_good A cap xs bd w hr hc (by omega) h0 h1 h2
      · have d0 : decide (bd < 0) = false := decide_eq_false (by omega)
        have d1 : decide (1024 < bd) = false := decide_eq_false (by omega)
        have d2 : decide (bd < (xs.length : Int)) = true := decide_eq_true (by omega)
        have hs : saneQ xs bd = false := by simp [saneQ, h2]
        have hu := Try.underlying26
        rw [hs]
        clear hs
        go_enter Try.func30, Try.ntmps30
        go_wp2_with fail
        go_ret
        exact ⟨rfl, (Kept.refl w).alloc _⟩
    · have d0 : decide (bd < 0) = false := decide_eq_false (by omega)
      have d1 : decide (1024 < bd) = true := decide_eq_true (by omega)
      have hs : saneQ xs bd = false := by simp [saneQ, h1]
      have hu := Try.underlying26
      rw [hs]
      clear hs
      go_enter Try.func30, Try.ntmps30
      go_wp2_with fail
      go_ret
      exact ⟨rfl, (Kept.refl w).alloc _⟩
  · have d0 : decide (bd < 0) = true := decide_eq_true (by omega)
    have hs : saneQ xs bd = false := by simp [saneQ, h0]
    have hu := Try.underlying26
    rw [hs]
    clear hs
    go_enter Try.func30, Try.ntmps30
    go_wp2_with fail
    go_ret
    exact ⟨rfl, (Kept.refl w).alloc _⟩
theorem queue_Sane_is {b : Bool} (v : Value) (xs : List EntryV) (bd : Int) (w : World) (hq : IsQ w v xs bd) (hlen : xs.length ≤ 1024) (h : saneQ xs bd = b) :
    Calls Try.prog 30 #[v] w fun e w' => e = .returned (.bool b) ∧ Kept w w' := h ▸ queue_Sane v xs bd w hq hlen

set_option maxHeartbeats 400000 in
set_option maxRecDepth 100000 in
theorem queue_New (n : Int) (w : World) :
    Calls Try.prog 20 #[.int .i64 n] w fun e w' => e = .returned (.agg #[.slice none 0 0, .int .i64 (mx 0 (mn n 1024))]) ∧ Kept w w' := by
  have hu := Try.underlying26
  go_enter Try.func20, Try.ntmps20
  go_wp2_with fail
  · have e : mx 0 (mn n 1024) = 1024 := by unfold mx mn; split <;> (try split) <;> omega
    rw [e]
    exact ret_blk rfl rfl (Blk.new _ _ _) hu rfl (by kernel_rfl) rfl ⟨rfl, (Kept.refl w).alloc _⟩
  · have e : mx 0 (mn n 1024) = n := by unfold mx mn; split <;> (try split) <;> omega
    rw [e]
    exact ret_blk rfl rfl (Blk.new _ _ _) hu rfl (by kernel_rfl) rfl ⟨rfl, (Kept.refl w).alloc _⟩
  · have e : mx 0 (mn n 1024) = 0 := by unfold mx mn; split <;> (try split) <;> omega
    rw [e]
    exact ret_blk rfl rfl (Blk.new _ _ _) hu rfl (by kernel_rfl) rfl ⟨rfl, (Kept.refl w).alloc _⟩
theorem queue_New0 (w : World) : Calls Try.prog 20 #[.int .i64 0] w fun e w' => e = .returned (.agg #[.slice none 0 0, .int .i64 0]) ∧ Kept w w' := queue_New 0 w

/-- the first entry whose block has an address -/
def penQ (xs : List EntryV) (bd : Int) (a : AddrV) : Int := if saneQ xs bd = true then firE xs a else -1
set_option maxHeartbeats 400000 in
set_option maxRecDepth 100000 in
theorem queue_Pending (v : Value) (xs : List EntryV) (bd : Int) (a : AddrV) (w : World) (hq : IsQ w v xs bd) (hlen : xs.length ≤ 1024) :
    Calls Try.prog 33 #[v, .agg #[.int .u64 a.h, .int .u64 a.l, .bool a.v]] w fun e w' => e = .returned (.int .i64 (penQ xs bd a)) ∧ Kept w w' := by
  obtain ⟨A, cap, rfl, hc, hr, hty⟩ := hq
  have hu := Try.underlying34
  have hu2 := Try.underlying26
  have hq : IsQ w (.agg #[.slice A xs.length cap, .int .i64 bd]) xs bd := ⟨A, cap, rfl, hc, hr, hty⟩
  cases hs : saneQ xs bd with
  | false =>
    have e : penQ xs bd a = -1 := by simp [penQ, hs]
    rw [e]
    go_enter Try.func33, Try.ntmps33
    go_wp2_with fail
    refine (queue_Sane_is _ _ _ _ (IsQ.alloc (IsQ.alloc hq _) _) hlen hs).mono ?_
    rintro e w1 ⟨rfl, hb1⟩
    go_wp2_with fail
    go_ret
    exact ⟨rfl, (((Kept.refl w).alloc _).alloc _).call hb1.out⟩
  | true =>
    have e : penQ xs bd a = firE xs a := by simp [penQ, hs]
    rw [e]
    go_enter Try.func33, Try.ntmps33
    go_wp2_with fail
    refine (queue_Sane_is _ _ _ _ (IsQ.alloc (IsQ.alloc hq _) _) hlen hs).mono ?_
    rintro e w1 ⟨rfl, hb1⟩
    have B0 := ((Blk.new w 26 #[.slice A xs.length cap, .int .i64 bd]).alloc (.cells #[.int .u64 a.h, .int .u64 a.l, .bool a.v] 34)).call hb1.out
    have B1 := (Blk.new2 w (.cells #[.slice A xs.length cap, .int .i64 bd] 26) 34 #[.int .u64 a.h, .int .u64 a.l, .bool a.v]).call hb1.out
    have hK := (((Kept.refl w).alloc (.cells #[.slice A xs.length cap, .int .i64 bd] 26)).alloc (.cells #[.int .u64 a.h, .int .u64 a.l, .bool a.v] 34)).call hb1.out
    have hr1 := (hr.below hK.out).more hK.size
    obtain ⟨c0, f0⟩ := B0.facts
    obtain ⟨c1, f1⟩ := B1.facts
    have hk2 := Lib.hid hK
    clear hb1 hK
    go_wp2_with fail
    refine (queue_first A cap ⟨_, _, _⟩ xs (by omega) _ hr1).mono ?_
    rintro e w2 ⟨rfl, hb2⟩
    go_wp2_with fail
    go_ret
    exact ⟨rfl, hk2.out.call hb2.out⟩
end Go.Proofs.Ytapiffkeclnbbaa.Q
