import Derived.Test.YtapiffkeclnbbaaRows
import Derived.WalkKit
import Derived.ProofKit
import Derived.OpenShut
import Derived.ChangeOld
import Derived.Below
import Derived.SizedLaws
import Derived.Lib.SmallJoins
import Derived.Deep.Strs
import Derived.Deep.Slices
import Derived.Carry
import Derived.Test.YtapiffkeclnbbaaB0
import Derived.Test.YtapiffkeclnbbaaB5
import Derived.Test.YtapiffkeclnbbaaB6
import Derived.Test.YtapiffkeclnbbaaA2
import Derived.Test.YtapiffkeclnbbaaQ1
import Derived.Test.YtapiffkeclnbbaaQ4
/-! What a row hands in, opened: addresses, blocks, routes, entries, and slices of entries. -/
set_option linter.unusedVariables false
set_option linter.unusedSimpArgs false
namespace Go.Proofs.Ytapiffkeclnbbaa.R
open Go.Joins Go.ChangeShapes Go.WideShapes Go.RowKit Go.Deep Go.Proofs.Ytapiffkeclnbbaa.B0 Go.Proofs.Ytapiffkeclnbbaa.A2 Go.Proofs.Ytapiffkeclnbbaa.Q
section
variable {H : Type} {enc : TypeId × Value → H} {w : World} {base : Nat} {spare : Nat → Bool} {held : Bool} {fuel : Nat} {cs : List Value} {x : DataW H × List MemPlace}
def okA (a : AddrV) : Prop := (Lit.int .u64 a.h).wf = true ∧ (Lit.int .u64 a.l).wf = true
def okP (p : PrefV) : Prop := okA p.a ∧ (Lit.int .i64 p.n).wf = true
def okR (r : RouteV) : Prop := okP r.p ∧ (Lit.int .i64 r.hop).wf = true
def okEv (e : EntryV) : Prop := okA e.a ∧ okR e.x
theorem k32 : Try.prog.cellsOf 32 = 1 := by kernel_rfl
theorem k3 : Try.prog.cellsOf 3 = 1 := by kernel_rfl
theorem k4 : Try.prog.cellsOf 4 = 1 := by kernel_rfl
theorem k34 : Try.prog.cellsOf 34 = 3 := by kernel_rfl
theorem k36 : Try.prog.cellsOf 36 = 4 := by kernel_rfl
theorem k38 : Try.prog.cellsOf 38 = 5 := by kernel_rfl
theorem k51 : Try.prog.cellsOf 51 = 9 := by kernel_rfl
set_option maxRecDepth 100000 in
theorem trodA (h : DataW.trod enc Try.prog w base spare held fuel 34 cs = some x) : ∃ a : AddrV, cs = [.int .u64 a.h, .int .u64 a.l, .bool a.v] ∧ okA a := by
  obtain ⟨y0, y1, y2, n, _, hl, h0, h1, h2⟩ := trod_struct3 Try.underlying34 h
  have hl : cs.length = 3 := hl.trans k34
  match cs, hl with
  | [c0, c1, c2], _ =>
    simp only [k32, k3, k4, k34, k36, k38, List.drop_zero, List.drop_succ_cons, List.take_succ_cons, List.take_zero] at h0 h1 h2
    obtain ⟨a0, e0, _, w0⟩ := DataW.trod_int Try.underlying32 h0
    obtain ⟨a1, e1, _, w1⟩ := DataW.trod_int Try.underlying32 h1
    obtain ⟨a2, e2, _⟩ := DataW.trod_bool Try.underlying4 h2
    have f0 : [c0] = [.int .u64 a0] := e0
    have f1 : [c1] = [.int .u64 a1] := e1
    have f2 : [c2] = [.bool a2] := e2
    simp only [List.cons.injEq, and_true] at f0 f1 f2
    subst f0 f1 f2
    exact ⟨⟨a0, a1, a2⟩, rfl, w0, w1⟩
set_option maxRecDepth 100000 in
theorem trodP (h : DataW.trod enc Try.prog w base spare held fuel 36 cs = some x) : ∃ p : PrefV, cs = [.int .u64 p.a.h, .int .u64 p.a.l, .bool p.a.v, .int .i64 p.n] ∧ okP p := by
  obtain ⟨y0, y1, n, _, hl, h0, h1⟩ := trod_struct2 Try.underlying36 h
  have hl : cs.length = 4 := hl.trans k36
  match cs, hl with
  | [c0, c1, c2, c3], _ =>
    simp only [k32, k3, k4, k34, k36, k38, List.drop_zero, List.drop_succ_cons, List.take_succ_cons, List.take_zero] at h0 h1
    obtain ⟨a, e0, w0⟩ := trodA h0
    obtain ⟨a3, e3, _, w3⟩ := DataW.trod_int Try.underlying3 h1
    have f0 : [c0, c1, c2] = _ := e0
    have f3 : [c3] = [.int .i64 a3] := e3
    simp only [List.cons.injEq, and_true] at f0 f3
    obtain ⟨rfl, rfl, rfl⟩ := f0
    subst f3
    exact ⟨⟨a, a3⟩, rfl, w0, w3⟩
set_option maxRecDepth 100000 in
theorem trodR (h : DataW.trod enc Try.prog w base spare held fuel 38 cs = some x) : ∃ r : RouteV, cs = [.int .u64 r.p.a.h, .int .u64 r.p.a.l, .bool r.p.a.v, .int .i64 r.p.n, .int .i64 r.hop] ∧ okR r := by
  obtain ⟨y0, y1, n, _, hl, h0, h1⟩ := trod_struct2 Try.underlying38 h
  have hl : cs.length = 5 := hl.trans k38
  match cs, hl with
  | [c0, c1, c2, c3, c4], _ =>
    simp only [k32, k3, k4, k34, k36, k38, List.drop_zero, List.drop_succ_cons, List.take_succ_cons, List.take_zero] at h0 h1
    obtain ⟨p, e0, w0⟩ := trodP h0
    obtain ⟨a3, e3, _, w3⟩ := DataW.trod_int Try.underlying3 h1
    have f0 : [c0, c1, c2, c3] = _ := e0
    have f3 : [c4] = [.int .i64 a3] := e3
    simp only [List.cons.injEq, and_true] at f0 f3
    obtain ⟨rfl, rfl, rfl, rfl⟩ := f0
    subst f3
    exact ⟨⟨p, a3⟩, rfl, w0, w3⟩
set_option maxRecDepth 100000 in
theorem trodE (h : DataW.trod enc Try.prog w base spare held fuel 51 cs = some x) : ∃ e : EntryV, cs = encE e ∧ okEv e := by
  obtain ⟨y0, y1, y2, n, _, hl, h0, h1, h2⟩ := trod_struct3 Try.underlying51 h
  have hl : cs.length = 9 := hl.trans k51
  match cs, hl with
  | [c0, c1, c2, c3, c4, c5, c6, c7, c8], _ =>
    simp only [k32, k3, k4, k34, k36, k38, List.drop_zero, List.drop_succ_cons, List.take_succ_cons, List.take_zero] at h0 h1 h2
    obtain ⟨a, e0, w0⟩ := trodA h0
    obtain ⟨r, e1, w1⟩ := trodR h1
    obtain ⟨s, e2, _⟩ := DataW.trod_bool Try.underlying4 h2
    have f0 : [c0, c1, c2] = _ := e0
    have f1 : [c3, c4, c5, c6, c7] = _ := e1
    have f2 : [c8] = [.bool s] := e2
    simp only [List.cons.injEq, and_true] at f0 f1 f2
    obtain ⟨rfl, rfl, rfl⟩ := f0
    obtain ⟨rfl, rfl, rfl, rfl, rfl⟩ := f1
    subst f2
    exact ⟨⟨a, r, s⟩, rfl, w0, w1⟩
/-- a slice of structs of sz cells, whose elements open as enc' says -/
theorem open_rows {α : Type} {enc' : α → List Value} {ok : α → Prop} {t e : TypeId} {sz : Nat} (ht : Try.prog.underlying t = some (.slice e)) (hC : Try.prog.cellsOf e = sz) (hsz : 0 < sz) (hE : ∀ x, (enc' x).length = sz)
    (hop : ∀ fuel cs x, DataW.trod enc Try.prog w base spare held fuel e cs = some x → ∃ v : α, cs = enc' v ∧ ok v) {v : Value} (h : DataW.trod enc Try.prog w base spare held fuel t [v] = some x) :
    ∃ A cap xs, v = .slice A xs.length cap ∧ xs.length ≤ cap ∧ cap ≤ maxLen ∧ Rd w w.heap.size sz enc' A xs ∧ ∀ y ∈ xs, ok y := by
  rcases open_slice ht h with ⟨hv, _⟩ | ⟨a, len, cap, m, n, D, Pl, hv, _, hl, hm, hmm, _, hi⟩
  · injection hv with hv
    exact ⟨none, 0, [], hv, Nat.le_refl _, by simp [maxLen], .inl rfl, by simp⟩
  · injection hv with hv
    have hlm : len ≤ m := by rw [hmm]; split <;> omega
    have key : ∀ i : Fin len, ∃ y : α, w.cells? base (a.add (i.1 * sz)) sz = some (enc' y) ∧ ok y := fun i => by
      obtain ⟨cs', hc, ht'⟩ := hi i.1 (by omega)
      rw [hC] at hc
      obtain ⟨y, rfl, hy⟩ := hop _ _ _ ht'
      exact ⟨y, hc, hy⟩
    obtain ⟨f, hf⟩ := Classical.axiomOfChoice key
    refine ⟨some a, cap, List.ofFn f, by rw [List.length_ofFn]; exact hv, by rw [List.length_ofFn]; exact hl, hm, ?_, ?_⟩
    · by_cases h0 : len = 0
      · subst h0
        exact .inl (by simp)
      · obtain ⟨b, off, sp⟩ := a
        have c0 := (World.cells?_some (hf ⟨0, by omega⟩).1).2.2 0 hsz
        have hlt0 : 0 < (enc' (f ⟨0, by omega⟩)).length := by rw [hE]; exact hsz
        rw [List.getElem?_eq_getElem hlt0] at c0
        have hsp : sp = none := by
          cases sp with
          | none => rfl
          | some s =>
            exfalso
            simp only [World.cell?, Addr.add] at c0
            split at c0 <;> simp_all
        subst hsp
        have hb : b < w.heap.size := by
          rcases Nat.lt_or_ge b w.heap.size with h' | h'
          · exact h'
          · rw [Addr.add_lit, Addr.add_lit] at c0
            simp [World.cell?, Array.getElem?_eq_none h'] at c0
        refine .inr ⟨b, off, rfl, hb, fun i hi' j u hu => ?_⟩
        have hil : i < len := by simpa using hi'
        have hj : j < sz := by
          have := (List.getElem?_eq_some_iff.1 hu).1
          rwa [hE] at this
        have c1 := (World.cells?_some (hf ⟨i, hil⟩).1).2.2 j hj
        rw [Addr.add_lit, Addr.add_lit] at c1
        rw [c1]
        simpa using hu
    · intro y hy
      obtain ⟨i, rfl⟩ := List.mem_ofFn.1 hy
      exact (hf i).2
end
end Go.Proofs.Ytapiffkeclnbbaa.R
