/- Proved: kedgelaw14.QueueOnce answers true for every input, and leaves its input as it was; there is no further condition. -/
import Derived.Test.YtapiffkeclnbbaaRows
import Derived.WalkKit
import Derived.ProofKit
import Derived.OpenShut
import Derived.ChangeOld
import Derived.Below
import Derived.SizedLaws
import Derived.Lib.SmallJoins
import Derived.Deep.Strs
import Derived.Deep.Slices
import Derived.Carry
import Derived.Test.YtapiffkeclnbbaaB0
import Derived.Test.YtapiffkeclnbbaaB5
import Derived.Test.YtapiffkeclnbbaaB6
import Derived.Test.YtapiffkeclnbbaaA2
import Derived.Test.YtapiffkeclnbbaaQ1
import Derived.Test.YtapiffkeclnbbaaQ4
import Derived.Test.YtapiffkeclnbbaaQ18
import Derived.Test.YtapiffkeclnbbaaQ19
import Derived.Test.YtapiffkeclnbbaaR1
set_option linter.unusedVariables false
set_option linter.unusedSimpArgs false
namespace Go.Proofs.Ytapiffkeclnbbaa.queueOnce
open Go.ChangeShapes Go.WideShapes Go.ChangeAt Go.RowKit Go.Joins
open Go.Proofs.Ytapiffkeclnbbaa.B0 Go.Proofs.Ytapiffkeclnbbaa.A2 Go.Proofs.Ytapiffkeclnbbaa.Q Go.Proofs.Ytapiffkeclnbbaa.R
section
variable {H : Type} {enc : TypeId × Value → H} {w : World} {base : Nat} {spare : Nat → Bool} {held : Bool} {r : Reach} {b0 : Nat} {v : Value} {d : DataW H} {p : List MemPlace}
set_option maxRecDepth 100000 in
theorem open_A (hv : Value.okWide Try.prog w r b0 34 v) (h : DataW.Trod enc Try.prog w base spare held 34 v d p) : ∃ a : AddrV, v = .agg #[.int .u64 a.h, .int .u64 a.l, .bool a.v] ∧ okA a := by
  obtain ⟨cs, rfl, hsz⟩ := okWide_struct Try.underlying34 hv
  obtain ⟨fuel, hf⟩ := h
  obtain ⟨a, e, ha⟩ := trodA hf
  refine ⟨a, ?_, ha⟩
  have e : cs.toList = [.int .u64 a.h, .int .u64 a.l, .bool a.v] := e
  rw [← e]
set_option maxRecDepth 100000 in
theorem open_R (hv : Value.okWide Try.prog w r b0 38 v) (h : DataW.Trod enc Try.prog w base spare held 38 v d p) : ∃ a : RouteV, v = .agg #[.int .u64 a.p.a.h, .int .u64 a.p.a.l, .bool a.p.a.v, .int .i64 a.p.n, .int .i64 a.hop] ∧ okR a := by
  obtain ⟨cs, rfl, hsz⟩ := okWide_struct Try.underlying38 hv
  obtain ⟨fuel, hf⟩ := h
  obtain ⟨a, e, ha⟩ := trodR hf
  refine ⟨a, ?_, ha⟩
  have e : cs.toList = [.int .u64 a.p.a.h, .int .u64 a.p.a.l, .bool a.p.a.v, .int .i64 a.p.n, .int .i64 a.hop] := e
  rw [← e]
end
theorem walk (A : Option Addr) (cap : Nat) (xs : List EntryV) (bd : Int) (a : AddrV) (x : RouteV) (b : AddrV) (w : World) (hr : Rd w w.heap.size 9 encE A xs) (hc : xs.length ≤ cap) :
    Calls Try.prog 5 #[.agg #[.slice A xs.length cap, .int .i64 bd], .agg #[.int .u64 a.h, .int .u64 a.l, .bool a.v], .agg #[.int .u64 x.p.a.h, .int .u64 x.p.a.l, .bool x.p.a.v, .int .i64 x.p.n, .int .i64 x.hop], .agg #[.int .u64 b.h, .int .u64 b.l, .bool b.v]] w fun e w' => e = .returned (.bool true) ∧ Kept w w' := by
  by_cases hl : 60 < xs.length
  · exact once_long A cap xs bd a x b w hr hc hl
  · cases hs : saneQ xs bd with
    | false => exact once_insane A cap xs bd a x b w hr hc (by omega) hs
    | true =>
      by_cases hf : firE xs a = -1
      · by_cases hb : (xs.length : Int) = bd
        · exact once_full A cap xs bd a x b w hr hc (by omega) hs hf hb
        · cases hfit : fitE a x with
          | false => exact once_unfit A cap xs bd a x b w hr hc (by omega) hs hf hb hfit
          | true =>
            cases hcb : conP x.p b with
            | true => exact once_ok_true A cap xs bd a x b w hr hc (by omega) hs hf hb hfit hcb
            | false => exact once_ok_false A cap xs bd a x b w hr hc (by omega) hs hf hb hfit hcb
      · exact once_dup A cap xs bd a x b w hr hc (by omega) hs hf
theorem own : ownKnob Try.prog.godebug = none := by kernel_rfl
theorem laidOut : laidOutB Try.prog = true := by kernel_rfl
set_option maxRecDepth 100000 in
theorem lifted (os : Os) (started : os.Started) (H : Type) (enc : TypeId × Value → H) :
    ReturnsInHanded {} Try.checked os 5 .any (Rows.queueOnceSpec.pre6 enc Try.prog Try.f5 Rows.queueOnceRow.domain false) (Rows.queueOnceSpec.post enc Try.prog Try.f5 false true false false) := by
  refine returnsInHanded_of_change_sized (C := Try.checked) own started (by kernel_rfl) Try.func5
    (ChangeSpec.witness6 (enc := enc) (C := Try.checked) false ⟨#[], #[.agg #[.slice none 0 0, .int .i64 0], .agg #[.int .u64 0, .int .u64 0, .bool false], .agg #[.int .u64 0, .int .u64 0, .bool false, .int .i64 0, .int .i64 0], .agg #[.int .u64 0, .int .u64 0, .bool false]], []⟩ 8 (by kernel_rfl) (by kernel_rfl) (by kernel_rfl) (by kernel_rfl)) ?_
  intro W base args ds gs before hval0 hW hcnd hsz0 _
  have hval : ∀ (j : Nat) t v, Try.f5.params[j]? = some t → args[j]? = some v → Value.okWide Try.prog W .any base t v := hval0
  have hW' := hW
  obtain ⟨p, q, hA0, hV, rfl, hfz, hnd⟩ := hW
  have hA : DataW.TrodAll enc Try.prog W 0 (fun _ => true) true Try.f5.params.toList args.toList ds p := hA0
  rw [Try.params5] at hA hval
  obtain ⟨v0, vs0, d0, ds0, p0, q0, hargs, rfl, rfl, h0, r0⟩ := trodAll_cons hA
  obtain ⟨v1, vs1, d1, ds1, p1, q1, rfl, rfl, rfl, h1, r1⟩ := trodAll_cons r0
  obtain ⟨v2, vs2, d2, ds2, p2, q2, rfl, rfl, rfl, h2, r2⟩ := trodAll_cons r1
  obtain ⟨v3, vs3, d3, ds3, p3, q3, rfl, rfl, rfl, h3, r3⟩ := trodAll_cons r2
  obtain ⟨rfl, rfl, rfl⟩ := trodAll_nil r3
  obtain rfl : args = #[v0, v1, v2, v3] := by cases args; simp_all
  obtain ⟨rfl, rfl⟩ := trodVars_none hV
  have k0 := h0
  have k1 := h1
  have k2 := h2
  have k3 := h3
  have lt0 : ∀ x ∈ p0, x.block < W.heap.size := by obtain ⟨m, hm⟩ := k0; exact DataW.trod_lt m _ _ _ hm
  have lt1 : ∀ x ∈ p1, x.block < W.heap.size := by obtain ⟨m, hm⟩ := k1; exact DataW.trod_lt m _ _ _ hm
  have lt2 : ∀ x ∈ p2, x.block < W.heap.size := by obtain ⟨m, hm⟩ := k2; exact DataW.trod_lt m _ _ _ hm
  have lt3 : ∀ x ∈ p3, x.block < W.heap.size := by obtain ⟨m, hm⟩ := k3; exact DataW.trod_lt m _ _ _ hm
  obtain ⟨a0, a1, y0, y1, n0, rfl, _, _, g0, g1⟩ := open_agg2 Try.underlying30 (by kernel_rfl) (by kernel_rfl) (hval 0 30 v0 rfl rfl) h0
  obtain ⟨A, cap, xs, rfl, hc, hcm, hr, _⟩ := open_rows (enc' := encE) (ok := okEv) Try.underlying28 k51 (by decide) encE_len (fun _ _ _ h => trodE h) g0
  obtain ⟨bd, e1, _, _⟩ := DataW.trod_int Try.underlying3 g1
  injection e1 with e1
  subst e1
  obtain ⟨a, rfl, _⟩ := open_A (hval 1 34 v1 rfl rfl) h1
  obtain ⟨x, rfl, _⟩ := open_R (hval 2 38 v2 rfl rfl) h2
  obtain ⟨b, rfl, _⟩ := open_A (hval 3 34 v3 rfl rfl) h3
  clear hA0 hval0 hsz0
  refine (walk A cap xs bd a x b W hr hc).mono fun e W' ⟨he, bel⟩ => ?_
  subst he
  exact ⟨_, rfl, _, _, _, [], _, [], hW', trodAll_mk1 (shut_bool Try.underlying4 _), (trodAll_cons_mk (Below.trod laidOut (by kernel_rfl) (of_decide_eq_true (by kernel_rfl)) k0 bel.out lt0) (trodAll_cons_mk (Below.trod laidOut (by kernel_rfl) (of_decide_eq_true (by kernel_rfl)) k1 bel.out lt1) (trodAll_cons_mk (Below.trod laidOut (by kernel_rfl) (of_decide_eq_true (by kernel_rfl)) k2 bel.out lt2) (trodAll_cons_mk (Below.trod laidOut (by kernel_rfl) (of_decide_eq_true (by kernel_rfl)) k3 bel.out lt3) trodAll_mk0)))), rfl, bel.out.frame _, fun h => by cases h⟩
theorem over : Rows.queueOnceRow.holds Try.pinned (OpenSpec.ofChange Rows.queueOnceSpec) :=
  OpenClaim.holds_of_wide 5 Try.f5 rfl rfl rfl rfl rfl rfl rfl ⟨rfl, rfl, rfl, rfl, rfl⟩ rfl rfl rfl rfl rfl (by kernel_rfl) Try.func5 (by kernel_rfl)
    (of_decide_eq_true (by kernel_rfl)) (by unfold Func.isWrapper; first | (rw [if_pos (by decide +kernel)]; kernel_rfl) | (rw [if_neg (by decide +kernel)]; exact ⟨rfl, rfl⟩))
    (fun os started H enc _ => lifted os started H enc)
end Go.Proofs.Ytapiffkeclnbbaa.queueOnce
namespace Go.Proofs.Ytapiffkeclnbbaa
/-- The row of QueueOnce. -/
theorem queueOnce_holds : Rows.QueueOnceSaid := queueOnce.over
end Go.Proofs.Ytapiffkeclnbbaa
