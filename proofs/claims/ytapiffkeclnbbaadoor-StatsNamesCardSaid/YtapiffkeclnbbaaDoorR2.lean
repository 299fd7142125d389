import Derived.Test.YtapiffkeclnbbaaDoorRows
import Derived.Test.YtapiffkeclnbbaaDoorCards
import Derived.Test.YtapiffkeclnbbaaDoorTie
import Derived.WalkKit
import Derived.ProofKit
import Derived.LaidMore
import Derived.OpenShut
import Derived.ChangeOld
import Derived.Below
import Derived.SizedLaws
import Derived.Lib.SmallJoins
import Derived.Lib.LaidTab
import Derived.Deep.Strs
import Derived.Deep.Slices
import Derived.Carry
import Derived.Stop.Joined
import Derived.SevenTiedAt
import Derived.Stop.LaidErr
import Derived.Test.YtapiffkeclnbbaaDoorB0
import Derived.Test.YtapiffkeclnbbaaDoorB5
import Derived.Test.YtapiffkeclnbbaaDoorS6
import Derived.Test.YtapiffkeclnbbaaDoorS9
import Derived.Test.YtapiffkeclnbbaaDoorR1
/-! Slices that a Stats row hands in, opened. -/
set_option linter.unusedVariables false
set_option linter.unusedSimpArgs false
namespace Go.Proofs.YtapiffkeclnbbaaDoor.R
open Go.Joins Go.ChangeShapes Go.WideShapes Go.RowKit Go.Deep Go.Proofs.YtapiffkeclnbbaaDoor.B0 Go.Proofs.YtapiffkeclnbbaaDoor.S
section
variable {H : Type} {enc : TypeId × Value → H} {w : World} {base : Nat} {spare : Nat → Bool} {held : Bool} {fuel : Nat} {cs : List Value} {x : DataW H × List MemPlace}
theorem k3 : Tryd.prog.cellsOf 3 = 1 := by kernel_rfl
theorem k25 : Tryd.prog.cellsOf 25 = 1 := by kernel_rfl
theorem k32 : Tryd.prog.cellsOf 32 = 2 := by kernel_rfl
/-- a slice of structs of sz cells, whose elements open as enc' says -/
theorem open_rows {α : Type} {enc' : α → List Value} {ok : α → Prop} {t e : TypeId} {sz : Nat} (ht : Tryd.prog.underlying t = some (.slice e)) (hC : Tryd.prog.cellsOf e = sz) (hsz : 0 < sz) (hE : ∀ x, (enc' x).length = sz)
    (hop : ∀ fuel cs x, DataW.trod enc Tryd.prog w base spare held fuel e cs = some x → ∃ v : α, cs = enc' v ∧ ok v) {v : Value} (h : DataW.trod enc Tryd.prog w base spare held fuel t [v] = some x) :
    ∃ A cap xs, v = .slice A xs.length cap ∧ xs.length ≤ cap ∧ cap ≤ maxLen ∧ Rd w w.heap.size sz enc' A xs ∧ ∀ y ∈ xs, ok y := by
  rcases open_slice ht h with ⟨hv, _⟩ | ⟨a, len, cap, m, n, D, Pl, hv, _, hl, hm, hmm, _, hi⟩
  · injection hv with hv
    exact ⟨none, 0, [], hv, Nat.le_refl _, by simp [maxLen], .inl rfl, by simp⟩
  · injection hv with hv
    have hlm : len ≤ m := by rw [hmm]; split <;> omega
    have key : ∀ i : Fin len, ∃ y : α, w.cells? base (a.add (i.1 * sz)) sz = some (enc' y) ∧ ok y := fun i => by
      obtain ⟨cs', hc, ht'⟩ := hi i.1 (by omega)
      rw [hC] at hc
      obtain ⟨y, rfl, hy⟩ := hop _ _ _ ht'
      exact ⟨y, hc, hy⟩
    obtain ⟨f, hf⟩ := Classical.axiomOfChoice key
    refine ⟨some a, cap, List.ofFn f, by rw [List.length_ofFn]; exact hv, by rw [List.length_ofFn]; exact hl, hm, ?_, ?_⟩
    · by_cases h0 : len = 0
      · subst h0
        exact .inl (by simp)
      · obtain ⟨b, off, sp⟩ := a
        have c0 := (World.cells?_some (hf ⟨0, by omega⟩).1).2.2 0 hsz
        have hlt0 : 0 < (enc' (f ⟨0, by omega⟩)).length := by rw [hE]; exact hsz
        rw [List.getElem?_eq_getElem hlt0] at c0
        have hsp : sp = none := by
          cases sp with
          | none => rfl
          | some s =>
            exfalso
            simp only [World.cell?, Addr.add] at c0
            split at c0 <;> simp_all
        subst hsp
        have hb : b < w.heap.size := by
          rcases Nat.lt_or_ge b w.heap.size with h' | h'
          · exact h'
          · rw [Addr.add_lit, Addr.add_lit] at c0
            simp [World.cell?, Array.getElem?_eq_none h'] at c0
        refine .inr ⟨b, off, rfl, hb, fun i hi' j u hu => ?_⟩
        have hil : i < len := by simpa using hi'
        have hj : j < sz := by
          have := (List.getElem?_eq_some_iff.1 hu).1
          rwa [hE] at this
        have c1 := (World.cells?_some (hf ⟨i, hil⟩).1).2.2 j hj
        rw [Addr.add_lit, Addr.add_lit] at c1
        rw [c1]
        simpa using hu
    · intro y hy
      obtain ⟨i, rfl⟩ := List.mem_ofFn.1 hy
      exact (hf i).2

theorem ri_of {k : IntKind} {B : Nat} {A : Option Addr} {xs : List Int} (h : Rd w B 1 (fun x => [Value.int k x]) A xs) : Ri w B k A xs := by
  rcases h with h | ⟨b, off, e, hb, hc⟩
  · exact .inl h
  · refine .inr ⟨b, off, e, hb, fun i x hx => ?_⟩
    have hi := (List.getElem?_eq_some_iff.1 hx).1
    have h := hc i hi 0 (.int k x) (by simp [(List.getElem?_eq_some_iff.1 hx).2])
    simpa using h
set_option maxRecDepth 100000 in
theorem open_u64s {v : Value} (h : DataW.trod enc Tryd.prog w base spare held fuel 22 [v] = some x) : ∃ A cap xs, v = .slice A xs.length cap ∧ xs.length ≤ cap ∧ cap ≤ maxLen ∧ Ri w w.heap.size .u64 A xs ∧ ∀ y ∈ xs, okU y := by
  obtain ⟨A, cap, xs, e, h1, h2, h3, h4⟩ := open_rows (enc' := fun x => [Value.int .u64 x]) (ok := okU) Tryd.underlying22 k25 (by decide) (fun _ => rfl) (fun fuel cs x h => by
    obtain ⟨a, e, _, wa⟩ := DataW.trod_int Tryd.underlying25 h
    exact ⟨a, e, okU_of wa⟩) h
  exact ⟨A, cap, xs, e, h1, h2, ri_of h3, h4⟩
set_option maxRecDepth 100000 in
theorem open_i64s {v : Value} (h : DataW.trod enc Tryd.prog w base spare held fuel 37 [v] = some x) : ∃ A cap xs, v = .slice A xs.length cap ∧ xs.length ≤ cap ∧ cap ≤ maxLen ∧ Ri w w.heap.size .i64 A xs := by
  obtain ⟨A, cap, xs, e, h1, h2, h3, h4⟩ := open_rows (enc' := fun x => [Value.int .i64 x]) (ok := fun _ => True) Tryd.underlying37 k3 (by decide) (fun _ => rfl) (fun fuel cs x h => by
    obtain ⟨a, e, _, wa⟩ := DataW.trod_int Tryd.underlying3 h
    exact ⟨a, e, trivial⟩) h
  exact ⟨A, cap, xs, e, h1, h2, ri_of h3⟩
set_option maxRecDepth 100000 in
theorem open_acts {v : Value} (h : DataW.trod enc Tryd.prog w base spare held fuel 23 [v] = some x) : ∃ A cap xs, v = .slice A xs.length cap ∧ xs.length ≤ cap ∧ cap ≤ maxLen ∧ Rd w w.heap.size 2 encAct A xs ∧ ∀ a ∈ xs, okAct a :=
  open_rows (enc' := encAct) (ok := okAct) Tryd.underlying23 k32 (by decide) (fun _ => rfl) (fun fuel cs x h => by
    obtain ⟨y0, y1, n, _, hl, h0, h1⟩ := trod_struct2 Tryd.underlying32 h
    have hl : cs.length = 2 := hl.trans k32
    match cs, hl with
    | [c0, c1], _ =>
      simp only [k3, List.drop_zero, List.drop_succ_cons, List.take_succ_cons, List.take_zero] at h0 h1
      obtain ⟨a0, e0, _, w0⟩ := DataW.trod_int Tryd.underlying3 h0
      obtain ⟨a1, e1, _, w1⟩ := DataW.trod_int Tryd.underlying3 h1
      have f0 : [c0] = [.int .i64 a0] := e0
      have f1 : [c1] = [.int .i64 a1] := e1
      simp only [List.cons.injEq, and_true] at f0 f1
      subst f0 f1
      have hb := bounds_i64 w1
      exact ⟨⟨a0, a1⟩, rfl, show a1 < 9223372036854775808 by omega⟩) h
end
end Go.Proofs.YtapiffkeclnbbaaDoor.R
