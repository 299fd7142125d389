/- Proved: kedgelaw14.QueueNarrows answers true for every input, and leaves its input as it was; there is no further condition. -/
import Derived.Test.YtapiffkeclnbbaaRows
import Derived.WalkKit
import Derived.ProofKit
import Derived.OpenShut
import Derived.ChangeOld
import Derived.Below
import Derived.SizedLaws
import Derived.Lib.SmallJoins
import Derived.Deep.Strs
import Derived.Deep.Slices
import Derived.Carry
import Derived.Test.YtapiffkeclnbbaaB0
import Derived.Test.YtapiffkeclnbbaaB5
import Derived.Test.YtapiffkeclnbbaaB6
import Derived.Test.YtapiffkeclnbbaaA2
import Derived.Test.YtapiffkeclnbbaaD1
import Derived.Test.YtapiffkeclnbbaaD2
import Derived.Test.YtapiffkeclnbbaaQ1
import Derived.Test.YtapiffkeclnbbaaQ4
import Derived.Test.YtapiffkeclnbbaaN1
import Derived.Test.YtapiffkeclnbbaaN2
import Derived.Test.YtapiffkeclnbbaaR1
set_option linter.unusedVariables false
set_option linter.unusedSimpArgs false
namespace Go.Proofs.Ytapiffkeclnbbaa.queueNarrows
open Go.ChangeShapes Go.WideShapes Go.ChangeAt Go.RowKit Go.Joins
open Go.Proofs.Ytapiffkeclnbbaa.B0 Go.Proofs.Ytapiffkeclnbbaa.A2 Go.Proofs.Ytapiffkeclnbbaa.Q Go.Proofs.Ytapiffkeclnbbaa.R
set_option maxRecDepth 100000 in
theorem open_P {H : Type} {enc : TypeId × Value → H} {w : World} {base : Nat} {spare : Nat → Bool} {held : Bool} {r : Reach} {b0 : Nat} {v : Value} {d : DataW H} {p : List MemPlace} (hv : Value.okWide Try.prog w r b0 36 v) (h : DataW.Trod enc Try.prog w base spare held 36 v d p) : ∃ a : PrefV, v = .agg #[.int .u64 a.a.h, .int .u64 a.a.l, .bool a.a.v, .int .i64 a.n] ∧ okP a := by
  obtain ⟨cs, rfl, hsz⟩ := okWide_struct Try.underlying36 hv
  obtain ⟨fuel, hf⟩ := h
  obtain ⟨a, e, ha⟩ := trodP hf
  refine ⟨a, ?_, ha⟩
  have e : cs.toList = [.int .u64 a.a.h, .int .u64 a.a.l, .bool a.a.v, .int .i64 a.n] := e
  rw [← e]
theorem okW_of_okA {a : AddrV} (h : okA a) : D.okW a := by
  obtain ⟨h1, h2⟩ := h
  simp [Lit.wf, IntKind.min, IntKind.max, IntKind.signed, IntKind.bits] at h1 h2
  refine ⟨⟨?_, ?_⟩, ⟨?_, ?_⟩⟩ <;> omega
theorem walk (A : Option Addr) (cap : Nat) (xs : List EntryV) (bd : Int) (p : PrefV) (w : World) (hr : Rd w w.heap.size 9 encE A xs) (hc : xs.length ≤ cap) (hp : okP p) (ho : ∀ y ∈ xs, okEv y) :
    Calls Try.prog 7 #[.agg #[.slice A xs.length cap, .int .i64 bd], .agg #[.int .u64 p.a.h, .int .u64 p.a.l, .bool p.a.v, .int .i64 p.n]] w fun e w' => e = .returned (.bool true) ∧ Kept w w' := by
  by_cases hl : 60 < xs.length
  · exact narrows_long A cap xs bd p w hr hc hl
  · cases hs : saneQ xs bd with
    | false => exact narrows_insane A cap xs bd p w hr hc (by omega) hs
    | true => exact narrows_sane A cap xs bd p w hr hc (by omega) hs (okW_of_okA hp.1) (fun e he => ⟨okW_of_okA (ho e he).1, okW_of_okA (ho e he).2.1.1⟩)
theorem own : ownKnob Try.prog.godebug = none := by kernel_rfl
theorem laidOut : laidOutB Try.prog = true := by kernel_rfl
set_option maxRecDepth 100000 in
theorem lifted (os : Os) (started : os.Started) (H : Type) (enc : TypeId × Value → H) :
    ReturnsInHanded {} Try.checked os 7 .any (Rows.queueNarrowsSpec.pre6 enc Try.prog Try.f7 Rows.queueNarrowsRow.domain false) (Rows.queueNarrowsSpec.post enc Try.prog Try.f7 false true false false) := by
  refine returnsInHanded_of_change_sized (C := Try.checked) own started (by kernel_rfl) Try.func7
    (ChangeSpec.witness6 (enc := enc) (C := Try.checked) false ⟨#[], #[.agg #[.slice none 0 0, .int .i64 0], .agg #[.int .u64 0, .int .u64 0, .bool false, .int .i64 0]], []⟩ 8 (by kernel_rfl) (by kernel_rfl) (by kernel_rfl) (by kernel_rfl)) ?_
  intro W base args ds gs before hval0 hW hcnd hsz0 _
  have hval : ∀ (j : Nat) t v, Try.f7.params[j]? = some t → args[j]? = some v → Value.okWide Try.prog W .any base t v := hval0
  have hW' := hW
  obtain ⟨pp, q, hA0, hV, rfl, hfz, hnd⟩ := hW
  have hA : DataW.TrodAll enc Try.prog W 0 (fun _ => true) true Try.f7.params.toList args.toList ds pp := hA0
  rw [Try.params7] at hA hval
  obtain ⟨v0, vs0, d0, ds0, p0, q0, hargs, rfl, rfl, h0, r0⟩ := trodAll_cons hA
  obtain ⟨v1, vs1, d1, ds1, p1, q1, rfl, rfl, rfl, h1, r1⟩ := trodAll_cons r0
  obtain ⟨rfl, rfl, rfl⟩ := trodAll_nil r1
  obtain rfl : args = #[v0, v1] := by cases args; simp_all
  obtain ⟨rfl, rfl⟩ := trodVars_none hV
  have k0 := h0
  have k1 := h1
  have lt0 : ∀ x ∈ p0, x.block < W.heap.size := by obtain ⟨m, hm⟩ := k0; exact DataW.trod_lt m _ _ _ hm
  have lt1 : ∀ x ∈ p1, x.block < W.heap.size := by obtain ⟨m, hm⟩ := k1; exact DataW.trod_lt m _ _ _ hm
  obtain ⟨a0, a1, y0, y1, n0, rfl, _, _, g0, g1⟩ := open_agg2 Try.underlying30 (by kernel_rfl) (by kernel_rfl) (hval 0 30 v0 rfl rfl) h0
  obtain ⟨A, cap, xs, rfl, hc, hcm, hr, ho⟩ := open_rows (enc' := encE) (ok := okEv) Try.underlying28 k51 (by decide) encE_len (fun _ _ _ h => trodE h) g0
  obtain ⟨bd, e1, _, _⟩ := DataW.trod_int Try.underlying3 g1
  injection e1 with e1
  subst e1
  obtain ⟨p, rfl, hp⟩ := open_P (hval 1 36 v1 rfl rfl) h1
  clear hA0 hval0 hsz0
  refine (walk A cap xs bd p W hr hc hp ho).mono fun e W' ⟨he, bel⟩ => ?_
  subst he
  exact ⟨_, rfl, _, _, _, [], _, [], hW', trodAll_mk1 (shut_bool Try.underlying4 _), (trodAll_cons_mk (Below.trod laidOut (by kernel_rfl) (of_decide_eq_true (by kernel_rfl)) k0 bel.out lt0) (trodAll_cons_mk (Below.trod laidOut (by kernel_rfl) (of_decide_eq_true (by kernel_rfl)) k1 bel.out lt1) trodAll_mk0)), rfl, bel.out.frame _, fun h => by cases h⟩
theorem over : Rows.queueNarrowsRow.holds Try.pinned (OpenSpec.ofChange Rows.queueNarrowsSpec) :=
  OpenClaim.holds_of_wide 7 Try.f7 rfl rfl rfl rfl rfl rfl rfl ⟨rfl, rfl, rfl, rfl, rfl⟩ rfl rfl rfl rfl rfl (by kernel_rfl) Try.func7 (by kernel_rfl)
    (of_decide_eq_true (by kernel_rfl)) (by unfold Func.isWrapper; first | (rw [if_pos (by decide +kernel)]; kernel_rfl) | (rw [if_neg (by decide +kernel)]; exact ⟨rfl, rfl⟩))
    (fun os started H enc _ => lifted os started H enc)
end Go.Proofs.Ytapiffkeclnbbaa.queueNarrows
namespace Go.Proofs.Ytapiffkeclnbbaa
/-- The row of QueueNarrows. -/
theorem queueNarrows_holds : Rows.QueueNarrowsSaid := queueNarrows.over
end Go.Proofs.Ytapiffkeclnbbaa
