import Derived.Test.YtapiffkeclnbbaaProg
import Derived.Below
import Derived.Deep.Draws
import Derived.Deep.AppendLies
import Derived.Maps.AppendAt
import Derived.OwnWalk
import Derived.Laws.MakeOwn
import Derived.Laws.OwnMore
import Derived.Deep.OwnRows
import Derived.Tactics
import Derived.Laws.Slices
import Derived.WalkKit
import Derived.KernelRfl
import Derived.RowKit3
import Derived.Deep.LoopGhost
import Derived.Deep.QuietTactic
import Derived.BigQuiet
import Derived.WideLaws
import Derived.Deep.DeepCutAuto
import Derived.Deep.CutBlock
import Derived.Deep.RegionHeld3
import Derived.Deep.RegionWith
import Derived.Deep.RegionLaw
import Derived.Laws.Rows
import Derived.ArgAppend
import Derived.OrdersHeld
import Derived.Laws.BitsLemmas
import Derived.Laws.StructEq
import Derived.RowKit
import Derived.Lib.Hide
import Derived.Lib.SliceRun
import Derived.StillTail
import Derived.Lib.ItoaNum
import Derived.Test.YtapiffkeclnbbaaB0
import Derived.Test.YtapiffkeclnbbaaB1
import Derived.Test.YtapiffkeclnbbaaA1
import Derived.Test.YtapiffkeclnbbaaA2
import Derived.Test.YtapiffkeclnbbaaA3
import Derived.Test.YtapiffkeclnbbaaA4
import Derived.Test.YtapiffkeclnbbaaA5
import Derived.Test.YtapiffkeclnbbaaD1
import Derived.Test.YtapiffkeclnbbaaD2
import Derived.Test.YtapiffkeclnbbaaD3
import Derived.Test.YtapiffkeclnbbaaA7
import Derived.Test.YtapiffkeclnbbaaA8
import Derived.Test.YtapiffkeclnbbaaQ1
import Derived.Test.YtapiffkeclnbbaaQ2
import Derived.Test.YtapiffkeclnbbaaQ3
import Derived.Test.YtapiffkeclnbbaaQ6
import Derived.Test.YtapiffkeclnbbaaQ11
import Derived.Test.YtapiffkeclnbbaaQ14
import Derived.Test.YtapiffkeclnbbaaQ17
/-! What an update makes of a sane queue. -/
set_option linter.unusedVariables false
set_option linter.unusedSimpArgs false
namespace Go.Proofs.Ytapiffkeclnbbaa.Q
open Go.RowKit Go.Proofs.Ytapiffkeclnbbaa.B0 Go.Proofs.Ytapiffkeclnbbaa.A1 Go.Proofs.Ytapiffkeclnbbaa.A2 Go.Proofs.Ytapiffkeclnbbaa.D Go.Proofs.Ytapiffkeclnbbaa.A8
def okWE (e : EntryV) : Prop := okW e.a ∧ okW e.x.p.a
theorem whoP_v (a : AddrV) : (whoP a).a.v = a.v := rfl
theorem whoP_n (a : AddrV) : (whoP a).n = wd a.v := by
  have h : (whoP a).n = mx 0 (mn (wid a.v) (wid a.v)) := rfl
  have := wid_bd a.v
  rw [h, clamp_of this.1 (Int.le_refl _), wd_wid]
theorem whoP_ok (a : AddrV) : okW (whoP a).a := okW_of _ _
theorem whoP_sane {a : AddrV} (ha : okW a) : sanP (whoP a) = true := sanP_of ha _
theorem whoP_dig {a : AddrV} (ha : okW a) (i : Nat) (hi : i < wd a.v) : dig (whoP a).a i = dig a i := by
  have hw := wd_le a.v
  have hb := wid_bd a.v
  have h := dig_mask ha (mx 0 (mn (wid a.v) (wid a.v))) i (by omega)
  rw [clamp_of hb.1 (Int.le_refl _), clamp_of hb.1 (Int.le_refl _)] at h
  have e : (whoP a).a = maskA a (wid a.v) := by
    show maskA a (mx 0 (mn (wid a.v) (wid a.v))) = _
    rw [clamp_of hb.1 (Int.le_refl _)]
  rw [e, h, wd_wid]
  have : (i : Int) < (wd a.v : Int) := by omega
  simp [hi, this]
theorem whoP_con {a : AddrV} (ha : okW a) : conP (whoP a) a = true :=
  (conP_iff (whoP_ok a) ha).2 ⟨whoP_sane ha, rfl, fun i hi => whoP_dig ha i (by rw [whoP_n] at hi; omega)⟩
/-- whom all digits of a sane address contain is that address -/
theorem whoP_only {a b : AddrV} (ha : okW a) (hb : okW b) (sa : saneA a = true) (sb : saneA b = true) (h : conP (whoP a) b = true) : b = a := by
  obtain ⟨_, hv, hd⟩ := (conP_iff (whoP_ok a) hb).1 h
  rw [whoP_v] at hv
  refine addr_ext hb ha hv.symm fun i hi => ?_
  by_cases hw : i < wd a.v
  · rw [← whoP_dig ha i hw]
    exact (hd i (by rw [whoP_n]; omega)).symm
  · have e1 : dig a i = false := by
      cases e : dig a i
      · rfl
      · exact absurd ((saneA_iff ha).1 sa i hi e) hw
    have e2 : dig b i = false := by
      cases e : dig b i
      · rfl
      · exact absurd ((saneA_iff hb).1 sb i hi e) (by rw [← hv]; exact hw)
    rw [e1, e2]
theorem narE_a (p : PrefV) (e : EntryV) : (narE p e).a = e.a := by unfold narE; split <;> rfl
theorem narE_hop (p : PrefV) (e : EntryV) : (narE p e).x.hop = e.x.hop := by unfold narE; split <;> rfl
theorem narE_ok (p : PrefV) {e : EntryV} (h : okWE e) : okWE (narE p e) := by
  unfold narE
  split
  · exact ⟨h.1, whoP_ok _⟩
  · exact h
theorem narE_twice (p : PrefV) (e : EntryV) : narE p (narE p e) = narE p e := by
  by_cases h : ovE p e = true
  · have e1 : narE p e = ⟨e.a, ⟨whoP e.a, e.x.hop⟩, true⟩ := by unfold narE; rw [if_pos h]
    rw [e1]
    unfold narE
    split <;> rfl
  · have e1 : narE p e = e := by unfold narE; rw [if_neg h]
    rw [e1, e1]
theorem fit_parts {a : AddrV} {x : RouteV} (h : fitE a x = true) : saneA a = true ∧ (0 ≤ x.hop ∧ x.hop ≤ 65535) ∧ sanP x.p = true ∧ conP x.p a = true := by
  simp only [fitE, gooR, Bool.and_eq_true, decide_eq_true_eq] at h
  exact ⟨h.1, ⟨h.2.1.1, h.2.1.2.1⟩, h.2.1.2.2, h.2.2⟩
theorem nar_cov (p : PrefV) {e : EntryV} (ho : okWE e) (hf : fitE e.a e.x = true) : covP e.x.p (narE p e).x.p = true := by
  obtain ⟨sa, _, sp, hc⟩ := fit_parts hf
  obtain ⟨n0, n1, _⟩ := (sanP_iff ho.2).1 sp
  obtain ⟨_, hv, hd⟩ := (conP_iff ho.2 ho.1).1 hc
  unfold narE
  split
  · refine (covP_iff ho.2 (whoP_ok _)).2 ⟨by rw [whoP_n, ← hv]; exact n1, whoP_sane ho.1, sp, hv, fun i hi => ?_⟩
    rw [whoP_dig ho.1 i (by rw [← hv]; omega)]
    exact hd i hi
  · exact (covP_iff ho.2 ho.2).2 ⟨Int.le_refl _, sp, sp, rfl, fun _ _ => rfl⟩
theorem cov_sane {p q : PrefV} (h : covP p q = true) : sanP p = true ∧ sanP q = true := by
  simp only [covP, conP, Bool.and_eq_true] at h
  exact ⟨h.2.2.1, h.2.1⟩
theorem ov_sane {p : PrefV} {e : EntryV} (h : ovE p e = true) : sanP p = true := by
  simp only [ovE, Bool.or_eq_true] at h
  rcases h with h | h
  · exact (cov_sane h).1
  · exact (cov_sane h).2
/-- a sane prefix is apart just from what it does not overlap -/
theorem ov_apart {p : PrefV} {e : EntryV} (hp : okW p.a) (ho : okWE e) (hs : sanP p = true) (he : sanP e.x.p = true) : apaP e.x.p p = !ovE p e := by
  have h := apaP_iff ho.2 hp
  cases ha : apaP e.x.p p
  · cases hv : ovE p e
    · simp only [ovE, Bool.or_eq_false_iff] at hv
      rw [h.2 ⟨he, hs, hv.2, hv.1⟩] at ha
      cases ha
    · rfl
  · obtain ⟨_, _, h1, h2⟩ := h.1 ha
    simp [ovE, h1, h2]
theorem apart_sane {p q : PrefV} (h : apaP p q = true) : sanP p = true ∧ sanP q = true := by
  simp only [apaP, Bool.and_eq_true] at h
  exact ⟨h.1, h.2.1⟩
theorem nar_apart {p : PrefV} {e : EntryV} (hp : okW p.a) (ho : okWE e) (h : apaP e.x.p p = true) : narE p e = e := by
  obtain ⟨h1, h2⟩ := apart_sane h
  rw [ov_apart hp ho h2 h1] at h
  have : ovE p e = false := by simpa using h
  unfold narE
  rw [if_neg (by rw [this]; simp)]
theorem nar_clean {p : PrefV} {e : EntryV} (hp : okW p.a) (ho : okWE e) (hf : fitE e.a e.x = true) (hs : sanP p = true) (hst : (narE p e).stale = false) : apaP (narE p e).x.p p = true := by
  obtain ⟨_, _, sp, _⟩ := fit_parts hf
  by_cases h : ovE p e = true
  · have e1 : narE p e = ⟨e.a, ⟨whoP e.a, e.x.hop⟩, true⟩ := by unfold narE; rw [if_pos h]
    rw [e1] at hst
    cases hst
  · have e1 : narE p e = e := by unfold narE; rw [if_neg h]
    rw [e1, ov_apart hp ho hs sp]
    simp [h]
theorem cnt_is {p : PrefV} {e : EntryV} (hp : okW p.a) (ho : okWE e) (hf : fitE e.a e.x = true) : (sanP p && !apaP e.x.p p) = ovE p e := by
  obtain ⟨_, _, sp, _⟩ := fit_parts hf
  cases hs : sanP p
  · cases hv : ovE p e
    · rfl
    · rw [ov_sane hv] at hs; cases hs
  · rw [ov_apart hp ho hs sp]; simp
theorem cnt_less (p : PrefV) : ∀ xs : List EntryV, ((xs.map (narE p)).filter (ovE p)).length ≤ (xs.filter (ovE p)).length
  | [] => by simp
  | e :: r => by
    have ih := cnt_less p r
    rw [List.map_cons, List.filter_cons, List.filter_cons]
    by_cases h : ovE p e = true
    · rw [if_pos h]
      split
      · simp only [List.length_cons]; omega
      · simp only [List.length_cons]; omega
    · have e1 : narE p e = e := by unfold narE; rw [if_neg h]
      rw [e1, if_neg h, if_neg h]
      exact ih
theorem nar_fit (p : PrefV) {e : EntryV} (ho : okWE e) (hf : fitE e.a e.x = true) : fitE (narE p e).a (narE p e).x = true := by
  unfold narE
  split
  · obtain ⟨sa, h1, _, _⟩ := fit_parts hf
    simp [fitE, gooR, sa, h1.1, h1.2, whoP_sane ho.1, whoP_con ho.1]
  · exact hf
theorem sane_nar {xs : List EntryV} {bd : Int} {p : PrefV} (ho : ∀ e ∈ xs, okWE e) (h : saneQ xs bd = true) : saneQ (xs.map (narE p)) bd = true := by
  obtain ⟨h0, h1, h2, h3⟩ := saneQ_bd h
  rw [saneQ_of h0 h1 (by simpa using h2), allE_iff]
  rw [allE_iff] at h3
  intro i hi f hf
  have hi' : i < xs.length := by simpa using hi
  have he : xs[i]? = some xs[i] := List.getElem?_eq_getElem hi'
  rw [List.getElem?_map, he] at hf
  simp only [Option.map_some, Option.some.injEq] at hf
  subst hf
  have hk := h3 i hi' _ he
  have hoe := ho _ (List.getElem_mem hi')
  simp only [okE, Bool.and_eq_true, Bool.or_eq_true, Bool.not_eq_true', beq_iff_eq] at hk ⊢
  refine ⟨nar_fit p hoe hk.1, ?_, ?_⟩
  · by_cases hv : ovE p xs[i] = true
    · right
      have e1 : narE p xs[i] = ⟨xs[i].a, ⟨whoP xs[i].a, xs[i].x.hop⟩, true⟩ := by unfold narE; rw [if_pos hv]
      rw [e1]
      exact (eqP_iff _ _).2 rfl
    · have e1 : narE p xs[i] = xs[i] := by unfold narE; rw [if_neg hv]
      rw [e1]
      exact hk.2.1
  · rw [narE_a]
    have hn := firE_neg.1 (by rw [hk.2.2]; rfl)
    refine of_decide_eq_true ?_ |> fun h => h
    rw [decide_eq_true_eq]
    have : (firE ((xs.map (narE p)).take i) xs[i].a == -1) = true := firE_neg.2 fun y hy => ?_
    · simpa using this
    · rw [← List.map_take] at hy
      obtain ⟨e', he', rfl⟩ := List.mem_map.1 hy
      have hc := hn e' he'
      have ho' := ho _ (List.mem_of_mem_take he')
      by_cases hv : ovE p e' = true
      · have e1 : narE p e' = ⟨e'.a, ⟨whoP e'.a, e'.x.hop⟩, true⟩ := by unfold narE; rw [if_pos hv]
        rw [e1]
        refine Bool.eq_false_iff.2 fun hcon => ?_
        obtain ⟨j, hj, hje⟩ := List.getElem_of_mem (List.mem_of_mem_take he')
        have hk' := h3 j hj _ (List.getElem?_eq_getElem hj)
        rw [hje] at hk'
        simp only [okE, Bool.and_eq_true] at hk'
        obtain ⟨sa', _, _, hcc⟩ := fit_parts hk'.1
        obtain ⟨sa, _, _, _⟩ := fit_parts hk.1
        have hea := whoP_only ho'.1 hoe.1 sa' sa hcon
        rw [hea, hcc] at hc
        cases hc
      · have e1 : narE p e' = e' := by unfold narE; rw [if_neg hv]
        rw [e1]
        exact hc
end Go.Proofs.Ytapiffkeclnbbaa.Q
