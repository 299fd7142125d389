/- Proved: kedgelaw14.QueuePicks answers true for every input, and leaves its input as it was; there is no further condition. -/
import Derived.Test.YtapiffkeclnbbaaRows
import Derived.WalkKit
import Derived.ProofKit
import Derived.OpenShut
import Derived.ChangeOld
import Derived.Below
import Derived.SizedLaws
import Derived.Lib.SmallJoins
import Derived.Deep.Strs
import Derived.Deep.Slices
import Derived.Carry
import Derived.Test.YtapiffkeclnbbaaB0
import Derived.Test.YtapiffkeclnbbaaB5
import Derived.Test.YtapiffkeclnbbaaB6
import Derived.Test.YtapiffkeclnbbaaA2
import Derived.Test.YtapiffkeclnbbaaQ1
import Derived.Test.YtapiffkeclnbbaaQ4
import Derived.Test.YtapiffkeclnbbaaQ14
import Derived.Test.YtapiffkeclnbbaaR1
set_option linter.unusedVariables false
namespace Go.Proofs.Ytapiffkeclnbbaa.queuePicks
open Go.ChangeShapes Go.WideShapes Go.ChangeAt Go.RowKit Go.Joins
open Go.Proofs.Ytapiffkeclnbbaa.B0 Go.Proofs.Ytapiffkeclnbbaa.A2 Go.Proofs.Ytapiffkeclnbbaa.Q Go.Proofs.Ytapiffkeclnbbaa.R
theorem walk (A : Option Addr) (cap : Nat) (xs : List EntryV) (bd n : Int) (back : Bool) (w : World) (hr : Rd w w.heap.size 9 encE A xs) (hc : xs.length ≤ cap) :
    Calls Try.prog 4 #[.agg #[.slice A xs.length cap, .int .i64 bd], .bool back, .int .i64 n] w fun e w' => e = .returned (.bool true) ∧ Kept w w' := by
  by_cases hl : 60 < xs.length
  · exact picks_long A cap xs bd n w hr hc back hl
  · cases hs : saneQ xs bd with
    | false => exact picks_insane A cap xs bd n w hr hc back (by omega) hs
    | true =>
      cases back with
      | false => exact picks_false A cap xs bd n w hr hc (by omega) hs
      | true => exact picks_true A cap xs bd n w hr hc (by omega) hs
theorem own : ownKnob Try.prog.godebug = none := by kernel_rfl
theorem laidOut : laidOutB Try.prog = true := by kernel_rfl
set_option maxRecDepth 100000 in
theorem lifted (os : Os) (started : os.Started) (H : Type) (enc : TypeId × Value → H) :
    ReturnsInHanded {} Try.checked os 4 .any (Rows.queuePicksSpec.pre6 enc Try.prog Try.f4 Rows.queuePicksRow.domain false) (Rows.queuePicksSpec.post enc Try.prog Try.f4 false true false false) := by
  refine returnsInHanded_of_change_sized (C := Try.checked) own started (by kernel_rfl) Try.func4
    (ChangeSpec.witness6 (enc := enc) (C := Try.checked) false ⟨#[], #[.agg #[.slice none 0 0, .int .i64 0], .bool false, .int .i64 0], []⟩ 8 (by kernel_rfl) (by kernel_rfl) (by kernel_rfl) (by kernel_rfl)) ?_
  intro W base args ds gs before hval0 hW hcnd hsz0 _
  have hval : ∀ (j : Nat) t v, Try.f4.params[j]? = some t → args[j]? = some v → Value.okWide Try.prog W .any base t v := hval0
  have hW' := hW
  obtain ⟨p, q, hA0, hV, rfl, hfz, hnd⟩ := hW
  have hA : DataW.TrodAll enc Try.prog W 0 (fun _ => true) true Try.f4.params.toList args.toList ds p := hA0
  rw [Try.params4] at hA hval
  obtain ⟨v0, vs0, d0, ds0, p0, q0, hargs, rfl, rfl, h0, r0⟩ := trodAll_cons hA
  obtain ⟨v1, vs1, d1, ds1, p1, q1, rfl, rfl, rfl, h1, r1⟩ := trodAll_cons r0
  obtain ⟨v2, vs2, d2, ds2, p2, q2, rfl, rfl, rfl, h2, r2⟩ := trodAll_cons r1
  obtain ⟨rfl, rfl, rfl⟩ := trodAll_nil r2
  obtain rfl : args = #[v0, v1, v2] := by cases args; simp_all
  obtain ⟨rfl, rfl⟩ := trodVars_none hV
  have k0 := h0
  have lt0 : ∀ x ∈ p0, x.block < W.heap.size := by obtain ⟨m, hm⟩ := k0; exact DataW.trod_lt m _ _ _ hm
  obtain ⟨a0, a1, y0, y1, n0, rfl, _, _, g0, g1⟩ := open_agg2 Try.underlying30 (by kernel_rfl) (by kernel_rfl) (hval 0 30 v0 rfl rfl) h0
  obtain ⟨A, cap, xs, rfl, hc, hcm, hr, _⟩ := open_rows (enc' := encE) (ok := okEv) Try.underlying28 k51 (by decide) encE_len (fun _ _ _ h => trodE h) g0
  obtain ⟨bd, e1, _, _⟩ := DataW.trod_int Try.underlying3 g1
  injection e1 with e1
  subst e1
  obtain ⟨b1, rfl, rfl, rfl⟩ := open_bool Try.underlying4 (hval 1 4 v1 rfl rfl) h1
  obtain ⟨b2, rfl, rfl, rfl, w2⟩ := open_int Try.underlying3 (hval 2 3 v2 rfl rfl) h2
  clear hA0 hval0 hsz0
  refine (walk A cap xs bd b2 b1 W hr hc).mono fun e W' ⟨he, bel⟩ => ?_
  subst he
  exact ⟨_, rfl, _, _, _, [], _, [], hW', trodAll_mk1 (shut_bool Try.underlying4 _), (trodAll_cons_mk (Below.trod laidOut (by kernel_rfl) (of_decide_eq_true (by kernel_rfl)) k0 bel.out lt0) (trodAll_cons_mk (shut_bool Try.underlying4 _) (trodAll_cons_mk (shut_int Try.underlying3 w2) trodAll_mk0))), rfl, bel.out.frame _, fun h => by cases h⟩
theorem over : Rows.queuePicksRow.holds Try.pinned (OpenSpec.ofChange Rows.queuePicksSpec) :=
  OpenClaim.holds_of_wide 4 Try.f4 rfl rfl rfl rfl rfl rfl rfl ⟨rfl, rfl, rfl, rfl, rfl⟩ rfl rfl rfl rfl rfl (by kernel_rfl) Try.func4 (by kernel_rfl)
    (of_decide_eq_true (by kernel_rfl)) (by unfold Func.isWrapper; first | (rw [if_pos (by decide +kernel)]; kernel_rfl) | (rw [if_neg (by decide +kernel)]; exact ⟨rfl, rfl⟩))
    (fun os started H enc _ => lifted os started H enc)
end Go.Proofs.Ytapiffkeclnbbaa.queuePicks
namespace Go.Proofs.Ytapiffkeclnbbaa
/-- The row of QueuePicks. -/
theorem queuePicks_holds : Rows.QueuePicksSaid := queuePicks.over
end Go.Proofs.Ytapiffkeclnbbaa
