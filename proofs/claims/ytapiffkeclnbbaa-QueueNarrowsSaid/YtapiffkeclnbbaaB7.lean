import Derived.Test.YtapiffkeclnbbaaProg
import Derived.Below
import Derived.Deep.Draws
import Derived.Deep.AppendLies
import Derived.Maps.AppendAt
import Derived.OwnWalk
import Derived.Laws.MakeOwn
import Derived.Laws.OwnMore
import Derived.Deep.OwnRows
import Derived.Tactics
import Derived.Laws.Slices
import Derived.WalkKit
import Derived.KernelRfl
import Derived.RowKit3
import Derived.Deep.LoopGhost
import Derived.Deep.QuietTactic
import Derived.BigQuiet
import Derived.WideLaws
import Derived.Deep.DeepCutAuto
import Derived.Deep.CutBlock
import Derived.Deep.RegionHeld3
import Derived.Deep.RegionWith
import Derived.Deep.RegionLaw
import Derived.Laws.Rows
import Derived.ArgAppend
import Derived.OrdersHeld
import Derived.Laws.BitsLemmas
import Derived.Laws.StructEq
import Derived.RowKit
import Derived.Lib.Hide
import Derived.Lib.SliceRun
import Derived.StillTail
import Derived.Test.YtapiffkeclnbbaaB0
import Derived.Test.YtapiffkeclnbbaaB2
import Derived.Test.YtapiffkeclnbbaaB4
/-! A region that draws its order, where loud operations (calls that hand back what they made, stores) come among quiet ones: the quiet ones are taken first, the loud ones in their one order. -/
set_option linter.unusedVariables false
namespace Go.Proofs.Ytapiffkeclnbbaa.B0
open Go.RowKit
/-- the block b holds cells of the type t -/
def Tb (w : World) (b : Nat) (t : TypeId) : Prop := ∃ cs fz, w.heap[b]? = some (.cells cs t fz)
theorem Tb.lt {w : World} {b : Nat} {t : TypeId} (h : Tb w b t) : b < w.heap.size := by
  obtain ⟨_, _, h⟩ := h
  exact (Array.getElem?_eq_some_iff.1 h).1
theorem Tb.same {w w' : World} {b : Nat} {t : TypeId} (h : Tb w b t) (e : w'.heap[b]? = w.heap[b]?) : Tb w' b t := by
  obtain ⟨cs, fz, h⟩ := h
  exact ⟨cs, fz, e.trans h⟩
theorem Tb.set {w : World} {b g j : Nat} {t : TypeId} (h : Tb w b t) (u : Value) : Tb (w.setCell ⟨g, j, none⟩ u) b t := by
  by_cases hb : b = g
  · obtain ⟨cs, fz, h⟩ := h
    subst hb
    refine ⟨cs.setIfInBounds j u, fz, ?_⟩
    show (w.setCell ⟨b, j, none⟩ u).heap[b]? = _
    simp [World.setCell, Array.getElem?_modify, h]
  · exact h.same (Below.heap_setCell w ⟨g, j, none⟩ u b hb)
theorem Blk.tb {w : World} {g : Nat} {t : TypeId} {cs : Array Value} (B : Blk w g t cs) : Tb w g t := ⟨cs, (0, 0), B.out⟩
theorem Tb.ne {w : World} {b g : Nat} {t t' : TypeId} (h : Tb w b t) (h' : Tb w g t') (hne : t ≠ t') : b ≠ g := by
  rintro rfl
  obtain ⟨_, _, h⟩ := h
  obtain ⟨_, _, h'⟩ := h'
  rw [h] at h'
  injection h' with h'
  injection h' with _ ht
  exact hne ht
theorem Blk.off {w : World} {g h j : Nat} {t : TypeId} {cs : Array Value} (B : Blk w g t cs) (hp : g ≠ h) (u : Value) : Blk (w.setCell ⟨h, j, none⟩ u) g t cs := B.far (p := ⟨h, j, none⟩) hp u
theorem Blk.cast {w : World} {g : Nat} {t : TypeId} {cs cs' : Array Value} (B : Blk w g t cs) (e : cs = cs') : Blk w g t cs' := e ▸ B
theorem own_set {W : World} {base sz : Nat} {t : TypeId} {n : Nat} {v : Value} {cs : List Value} (h : W.ownsRow base t sz v n cs) {g j : Nat} (hg : g < base) (u : Value) : (W.setCell ⟨g, j, none⟩ u).ownsRow base t sz v n cs := by
  refine ⟨h.1, ?_⟩
  rcases h.2 with hv | ⟨g', cap, cur, hv, hb, hc, hrest⟩
  · exact .inl hv
  · exact .inr ⟨g', cap, cur, hv, hb, (Below.heap_setCell W ⟨g, j, none⟩ u g' (show g' ≠ g by omega)).trans hc, hrest⟩
section
variable {P : Program} {ops : Array Oper} {md : Region.Mode} {C : World → Prop}

/-- what only makes new blocks leaves a world of the class -/
def Steady (C : World → Prop) : Prop := ∀ w w', C w → Below w.heap.size w w' → C w'

/-- in whatever world of the class the operation yields v, and at most makes new blocks -/
def sq (P : Program) (o : Oper) (a : Act) (v : Value) (W : World) : Prop :=
  match (execOp a.eval o).run P W with
  | .ok (.value u) W' => u = v ∧ W' = W
  | .ok (.enter f args) W' => W' = W ∧ Calls P f args W fun e w' => e = .returned v ∧ Below W.heap.size W w'
  | _ => False

def SQuiet (P : Program) (ops : Array Oper) (C : World → Prop) (o : Oper) (v : Value) (a : Act) : Prop :=
  (Region.wanted o (yielded ops a.tmps) = true ∧ ∀ W, C W → sq P o a v W) ∨ (Region.wanted o (yielded ops a.tmps) = false ∧ v = undef)

def sAfter (C : World → Prop) (K : Act → World → Prop) (a : Act) (w : World) : Prop := C w ∧ ∀ w', Below w.heap.size w w' → K a w'

def noExit : Exit → Act → World → Prop := fun _ _ _ => False

theorem noExit_lets (h : LetsOut noExit) : False := let ⟨_, _, h⟩ := h; h

def sOp (P : Program) (ops : Array Oper) (C : World → Prop) (i : Nat) (K : Act → World → Prop) (a : Act) (w : World) : Prop :=
  match ops[i]? with
  | none => False
  | some o => if Region.wanted o (yielded ops a.tmps) then o.wp P a w (sAfter C K) noExit else sAfter C K (a.put o.dst undef) w

theorem sOp_mono {i : Nat} {C' : World → Prop} {K K' : Act → World → Prop} {a : Act} {w : World} (h : ∀ a w, sAfter C K a w → sAfter C' K' a w) (hh : sOp P ops C i K a w) : sOp P ops C' i K' a w := by
  unfold sOp at *
  split
  · rename_i ho; simp only [ho] at hh
  · rename_i o ho
    simp only [ho] at hh
    split
    · rename_i hw; simp only [hw, if_true] at hh; exact Oper.wp_mono h hh
    · rename_i hw; simp only [hw] at hh; exact h _ _ hh

theorem SQuiet.of_same {o : Oper} {v : Value} {a a' : Act} (hy : SQuiet P ops C o v a) (he : execOp a'.eval o = execOp a.eval o)
    (hw : Region.wanted o (yielded ops a'.tmps) = Region.wanted o (yielded ops a.tmps)) : SQuiet P ops C o v a' := by
  unfold SQuiet sq at *
  rw [he, hw]
  exact hy

theorem SQuiet.sOp {i : Nat} {o : Oper} {v : Value} {a : Act} {w : World} (hC : Steady C) (hw : C w) (hi : ops[i]? = some o) (hy : SQuiet P ops C o v a) {K : Act → World → Prop}
    (h : ∀ w', Below w.heap.size w w' → K (a.put o.dst v) w') : sOp P ops C i K a w := by
  unfold B0.sOp
  simp only [hi]
  rcases hy with ⟨hwt, hv⟩ | ⟨hwt, rfl⟩
  · simp only [hwt, if_true]
    have hv := hv w hw
    unfold sq at hv
    unfold Oper.wp
    generalize (execOp a.eval o).run P w = r at *
    cases r with
    | ok n w' =>
      cases n <;> simp only [Oper.upon] at hv ⊢
      case value u =>
        obtain ⟨rfl, rfl⟩ := hv
        exact ⟨hw, h⟩
      case enter f args =>
        obtain ⟨rfl, hv⟩ := hv
        refine Calls.mono hv fun e w'' he => ?_
        obtain ⟨rfl, hb⟩ := he
        exact ⟨hC _ _ hw hb, fun w3 h3 => h w3 (hb.trans (h3.mono hb.size))⟩
    | halt x w' => cases x <;> simp only at hv
  · simp only [hwt, Bool.false_eq_true, if_false]
    exact ⟨hw, h⟩

theorem sOp_put {j : Nat} {oi oj : Oper} {v : Value} (hj : ops[j]? = some oj) (hap : oi.apart ops oj = true)
    (hsi : ∀ cs b, oi.op ≠ .select cs b) (hsj : ∀ cs b, oj.op ≠ .select cs b) {K : Act → World → Prop} {a : Act} {w : World}
    (hy : SQuiet P ops C oi v a) (h : sOp P ops C j K (a.put oi.dst v) w) :
    sOp P ops C j (fun a' w' => SQuiet P ops C oi v a' ∧ K (a'.put oi.dst v) w') a w := by
  obtain ⟨h1, h2, h3⟩ := Oper.apart_spec hap
  have keep : ∀ (a : Act), SQuiet P ops C oi v a → ∀ u, SQuiet P ops C oi v (a.put oj.dst u) := fun a hy u =>
    hy.of_same (execOp_put oi hsi a oj.dst u h3) (wanted_put oi a oj.dst u h3)
  have keepD : ∀ d, SQuiet P ops C oi v { a with defers := d :: a.defers } := fun d => hy.of_same rfl rfl
  unfold sOp at *
  simp only [hj] at *
  rw [wanted_put oj a oi.dst v h1] at h
  split
  · rename_i hw
    simp only [hw, if_true] at h
    unfold Oper.wp at *
    rw [execOp_put oj hsj a oi.dst v h1] at h
    generalize (execOp a.eval oj).run P w = r at *
    cases r with
    | ok n w' =>
      cases n <;> simp only [Oper.upon] at h ⊢
      case value u => exact ⟨h.1, fun w2 hb => ⟨keep a hy u, by rw [← Act.put_comm a v u h2]; exact h.2 w2 hb⟩⟩
      case skip => exact ⟨h.1, fun w2 hb => ⟨keep a hy _, by rw [← Act.put_comm a v undef h2]; exact h.2 w2 hb⟩⟩
      case defer d =>
        refine ⟨h.1, fun w2 hb => ⟨keep _ (keepD d) _, ?_⟩⟩
        rw [← Act.put_comm _ v undef h2, ← Act.put_defers]
        exact h.2 w2 hb
      case enter f args =>
        refine Calls.mono h fun e w'' he => ?_
        cases e with
        | returned u => exact ⟨he.1, fun w2 hb => ⟨keep a hy u, by rw [← Act.put_comm a v u h2]; exact he.2 w2 hb⟩⟩
        | panicked c => exact he
        | outgrown => exact he
      case row row args => exact Rows.mono h fun u w'' he => ⟨he.1, fun w2 hb => ⟨keep a hy u, by rw [← Act.put_comm a v u h2]; exact he.2 w2 hb⟩⟩
    | halt x w' =>
      cases x <;> simp only [Oper.upon] at h ⊢
      case panic u => exact h
  · rename_i hw
    simp only [hw] at h
    exact ⟨h.1, fun w2 hb => ⟨keep a hy _, by rw [← Act.put_comm a v undef h2]; exact h.2 w2 hb⟩⟩

def wpS (P : Program) (md : Region.Mode) (ops : Array Oper) (n : Nat) (L : Array Bool → Act → World → Prop) (C : World → Prop) : Nat → Array Bool → Act → World → Prop
  | 0, listed, a, w => L listed a w
  | f + 1, listed, a, w =>
    Region.ready md ops listed ≠ [] ∧ ∀ i ∈ Region.ready md ops listed, i < n ∧ sOp P ops C i (wpS P md ops n L C f (listed.setIfInBounds i true)) a w

theorem wpS_mono {n : Nat} {L : Array Bool → Act → World → Prop} {C C' : World → Prop} (h : ∀ w, C' w → C w) :
    ∀ (f : Nat) (listed : Array Bool) (a : Act) (w : World), wpS P md ops n L C' f listed a w → wpS P md ops n L C f listed a w
  | 0, _, _, _, hh => hh
  | f + 1, listed, a, w, hh => ⟨hh.1, fun i hi => ⟨(hh.2 i hi).1, sOp_mono (fun a' w' h' => ⟨h _ h'.1, fun w2 hb => wpS_mono h f _ _ _ (h'.2 w2 hb)⟩) (hh.2 i hi).2⟩⟩

theorem wpS_first {n i : Nat} {oi : Oper} {v : Value} {L : Array Bool → Act → World → Prop} (hC : Steady C) (hi : ops[i]? = some oi) (hsel : ∀ (j : Nat) (o : Oper) cs b, ops[j]? = some o → o.op ≠ .select cs b)
    (hs : Region.sinkB md ops n = true) (hc : Region.chainB md ops n = true) (hn : n < ops.size) (hin : i < n)
    (hdone : ∀ listed a w, L listed a w → ∀ j ∈ Region.ready md ops listed, n ≤ j) :
    ∀ (f : Nat) (listed : Array Bool) (a : Act) (w : World), HeadInv md ops n listed →
      (∀ j oj, ops[j]? = some oj → j ≠ i → listed.getD j true = false → (∀ e ∈ oj.after, Region.binds md e = true → e.on ≠ i) → oi.apart ops oj = true) →
      i ∈ Region.ready md ops listed → SQuiet P ops C oi v a → C w →
      (∀ w', Below w.heap.size w w' → wpS P md ops n L C f (listed.setIfInBounds i true) (a.put oi.dst v) w') → wpS P md ops n L C (f + 1) listed a w := by
  intro f
  induction f with
  | zero =>
    intro listed a w inv _ hr hy hw H
    have hun := (mem_ready.1 hr).1
    refine ⟨fun h => (by rw [h] at hr; cases hr), fun j hj => ?_⟩
    have hjn : j < n := by
      rcases Nat.lt_or_ge j n with h | h
      · exact h
      · exact absurd hj (tail_waits hs hc hn inv _ i rfl hin hun j h)
    refine ⟨hjn, ?_⟩
    by_cases hji : j = i
    · subst hji; exact hy.sOp hC hw hi H
    · have := hdone _ _ _ (H w (Below.refl _ _)) j (ready_mono hj hji)
      omega
  | succ f ih =>
    intro listed a w inv hfree hr hy hw H
    have hun := (mem_ready.1 hr).1
    refine ⟨fun h => (by rw [h] at hr; cases hr), fun j hj => ?_⟩
    have hjn : j < n := by
      rcases Nat.lt_or_ge j n with h | h
      · exact h
      · exact absurd hj (tail_waits hs hc hn inv _ i rfl hin hun j h)
    refine ⟨hjn, ?_⟩
    by_cases hji : j = i
    · subst hji; exact hy.sOp hC hw hi H
    · have h1 := ((H w (Below.refl _ _)).2 j (ready_mono hj hji)).2
      obtain ⟨hjun, oj, hoj, hall⟩ := mem_ready.1 hj
      have hnot : ∀ e ∈ oj.after, Region.binds md e = true → e.on ≠ i := fun e he hb heq => by
        have h1 := hall e he hb
        rw [heq, getD_both hun] at h1
        cases h1
      have h2 := sOp_put hoj (hfree j oj hoj hji hjun hnot) (fun cs b => hsel i oi cs b hi) (fun cs b => hsel j oj cs b hoj) hy h1
      have hfree' : ∀ k ok, ops[k]? = some ok → k ≠ i → (listed.setIfInBounds j true).getD k true = false →
          (∀ e ∈ ok.after, Region.binds md e = true → e.on ≠ i) → oi.apart ops ok = true := fun k ok hk hki hun hno => by
        refine hfree k ok hk hki ?_ hno
        by_cases hjk : j = k
        · subst hjk; exact hjun
        · rw [getD_set_ne true hjk] at hun; exact hun
      refine sOp_mono (fun a' w' h3 => ⟨h3.1, fun w2 hb2 => ?_⟩) h2
      refine ih (listed.setIfInBounds j true) a' w2 (inv.set hj hjn) hfree' (ready_mono hr (Ne.symm hji)) (h3.2 w2 hb2).1 (hC _ _ h3.1 hb2) fun w3 hb3 => ?_
      rw [Array.setIfInBounds_comm _ _ hji]
      exact (h3.2 w3 (hb2.trans (hb3.mono hb2.size))).2

theorem wpAny_of_S {n g : Nat} {L : Array Bool → Act → World → Prop} {Q' : Exit → Act → World → Prop} (hL : ∀ listed a w, L listed a w → wpAny P md ops Q' g listed a w) :
    ∀ (f : Nat) (listed : Array Bool) (a : Act) (w : World), wpS P md ops n L C f listed a w → wpAny P md ops Q' (f + g) listed a w
  | 0, listed, a, w, h => by rw [Nat.zero_add]; exact hL _ _ _ h
  | f + 1, listed, a, w, h => by
    rw [show f + 1 + g = (f + g) + 1 by omega]
    refine ⟨fun h0 => absurd h0 h.1, fun i hi => ?_⟩
    have h2 := (h.2 i hi).2
    unfold sOp at h2
    unfold wpOp
    split at h2
    · exact h2.elim
    · rename_i o ho
      rw [ho]
      simp only
      split at h2
      · rename_i hw
        rw [if_pos hw]
        refine .inl ?_
        unfold Oper.wp at *
        generalize (execOp a.eval o).run P w = r at *
        cases r with
        | ok nx w' =>
          cases nx <;> simp only [Oper.upon] at h2 ⊢
          case value u => exact wpAny_of_S hL f _ _ _ (h2.2 _ (Below.refl _ _))
          case skip => exact wpAny_of_S hL f _ _ _ (h2.2 _ (Below.refl _ _))
          case defer d => exact wpAny_of_S hL f _ _ _ (h2.2 _ (Below.refl _ _))
          case enter fn args =>
            refine Calls.mono h2 fun e w'' he => ?_
            cases e with
            | returned u => exact wpAny_of_S hL f _ _ _ (he.2 _ (Below.refl _ _))
            | panicked c => exact he.elim
            | outgrown => exact (noExit_lets he).elim
          case row row args => exact Rows.mono h2 fun u w'' he => wpAny_of_S hL f _ _ _ (he.2 _ (Below.refl _ _))
        | halt x w' =>
          cases x <;> simp only [Oper.upon] at h2 ⊢
          case panic u => exact h2.elim
      · rename_i hw
        rw [if_neg hw]
        exact wpAny_of_S hL f _ _ _ (h2.2 _ (Below.refl _ _))

/-- the walk: quiet operations (false) and loud ones (true) in an order of the prover's, then the tail. C: what every world satisfies from here on; D: what is known of the world now -/
def wpSq (P : Program) (ops : Array Oper) (T : Act → World → Prop) : (World → Prop) → (World → Prop) → List (Option Oper × Bool) → Act → Prop
  | _, D, [], a => ∀ w, D w → T a w
  | _, _, (none, _) :: _, _ => False
  | C, D, (some o, false) :: r, a => ∃ v, SQuiet P ops C o v a ∧ wpSq P ops T C D r (a.put o.dst v)
  | C, D, (some o, true) :: r, a => Region.wanted o (yielded ops a.tmps) = true ∧ ∀ w, D w → o.wp P a w (fun a' w' => ∃ C' D', Steady C' ∧ Steady D' ∧ (∀ w, C' w → C w) ∧ (∀ w, D' w → C' w) ∧ D' w' ∧ wpSq P ops T C' D' r a') noExit

def ordB (md : Region.Mode) (ops : Array Oper) (g n : Nat) : List (Nat × Bool) → Array Bool → Bool
  | [], listed => Region.seqB md ops g n listed
  | (k, false) :: r, listed => decide (k < n) && (Region.ready md ops listed).contains k && Region.free md ops listed k && ordB md ops g n r (listed.setIfInBounds k true)
  | (k, true) :: r, listed => decide (k < n) && decide (Region.ready md ops listed = [k]) && ordB md ops g n r (listed.setIfInBounds k true)

theorem wpS_of_sq {n g : Nat} {T : Act → World → Prop} (hsel : Region.noSelect ops = true) (hs : Region.sinkB md ops n = true) (hc : Region.chainB md ops n = true) (hn : n < ops.size) :
    ∀ (ord : List (Nat × Bool)) (C D : World → Prop) (listed : Array Bool) (a : Act), Steady C → Steady D → (∀ w, D w → C w) → HeadInv md ops n listed → ordB md ops g n ord listed = true → wpSq P ops T C D (ord.map fun p => (ops[p.1]?, p.2)) a →
      ∀ w, D w → wpS P md ops n (fun listed' a' w' => Region.seqB md ops g n listed' = true ∧ T a' w') C ord.length listed a w
  | [], C, D, listed, a, _, _, _, _, hB, h, w, hw => ⟨by simpa [ordB] using hB, h w hw⟩
  | (k, false) :: r, C, D, listed, a, hC, hD, hDC, inv, hB, h, w, hw => by
    simp only [ordB, Bool.and_eq_true, decide_eq_true_eq] at hB
    obtain ⟨⟨⟨hkn, hr⟩, hf⟩, hB'⟩ := hB
    have hr' : k ∈ Region.ready md ops listed := by simpa using hr
    obtain ⟨_, o, h0, _⟩ := mem_ready.1 hr'
    simp only [List.map_cons, h0, wpSq] at h
    obtain ⟨v, hy, hK⟩ := h
    exact wpS_first hC h0 (Region.noSelect_spec hsel) hs hc hn hkn (fun listed' a' w' hL => seqB_ready hL.1) r.length listed a w inv (Region.free_spec h0 hf) hr' hy (hDC _ hw)
      fun w' hb => wpS_of_sq hsel hs hc hn r C D _ _ hC hD hDC (inv.set hr' hkn) hB' hK w' (hD _ _ hw hb)
  | (k, true) :: r, C, D, listed, a, hC, hD, hDC, inv, hB, h, w, hw => by
    simp only [ordB, Bool.and_eq_true, decide_eq_true_eq] at hB
    obtain ⟨⟨hkn, hr⟩, hB'⟩ := hB
    have hr' : k ∈ Region.ready md ops listed := by rw [hr]; simp
    obtain ⟨_, o, h0, _⟩ := mem_ready.1 hr'
    simp only [List.map_cons, h0, wpSq] at h
    refine ⟨fun h => (by rw [h] at hr'; cases hr'), fun j hj => ?_⟩
    rw [hr] at hj
    have hjk : j = k := by simpa using hj
    subst hjk
    refine ⟨hkn, ?_⟩
    unfold sOp
    simp only [h0, h.1, if_true]
    refine Oper.wp_mono (fun a' w' h' => ?_) (h.2 w hw)
    obtain ⟨C', D', hC', hD', hle, hDC', hw', hK⟩ := h'
    refine ⟨hle _ (hDC' _ hw'), fun w2 hb => ?_⟩
    exact wpS_mono hle _ _ _ _ (wpS_of_sq hsel hs hc hn r C' D' _ _ hC' hD' hDC' (inv.set hr' hkn) hB' hK w2 (hD' _ _ hw' hb))

def ordTailB (md : Region.Mode) (ops : Array Oper) (n : Nat) (ord : List (Nat × Bool)) : Bool :=
  Region.noSelect ops && decide (n < ops.size) && Region.sinkB md ops n && Region.chainB md ops n && decide (ord.length = n) && ordB md ops (ops.size - n) n ord (Array.replicate ops.size false)

theorem wp_region_sq {id : Nat} {Q : Exit → Act → World → Prop} {a : Act} {w : World} {l : List Oper} (n : Nat) (ord : List (Nat × Bool)) (C : World → Prop) (hm : P.follows .mixedOrders = true) (hB : ordTailB .any l.toArray n ord = true) (hS : Steady C) (hC : C w.drew)
    (h : wpSq P l.toArray (fun a' w' => wpList P l.toArray Q (l.drop n) a' w') C C (ord.map fun p => (l.toArray[p.1]?, p.2)) a) : (Code.region id l.toArray true).wp P Q a w := by
  simp only [ordTailB, Bool.and_eq_true, decide_eq_true_eq] at hB
  obtain ⟨⟨⟨⟨⟨hsel, hn⟩, hs⟩, hc⟩, hlen⟩, hord⟩ := hB
  have hdl : (l.drop n).length = l.toArray.size - n := by simp
  have inv0 : HeadInv .any l.toArray n (Array.replicate l.toArray.size false) :=
    ⟨by simp, fun j oj _ hl => (by rw [getD_replicate_false] at hl; cases hl), fun t _ ht => getD_in (by simpa using ht) (getD_replicate_false _ _)⟩
  have H := wpS_of_sq (md := .any) (g := l.toArray.size - n) hsel hs hc hn ord C C _ a hS hS (fun _ h => h) inv0 hord h w.drew hC
  refine wp_region_any hm ?_
  have := wpAny_of_S (Q' := Q) (g := l.toArray.size - n) (fun listed a' w' hL => by
    have := wpAny_of_seq (md := .any) (Q' := Q) (l.drop n) n listed a' w' (fun j => by simp [List.getElem?_drop]) (by rw [hdl]; exact hL.1) hL.2
    rwa [hdl] at this) _ _ _ _ H
  rw [hlen, show n + (l.toArray.size - n) = l.toArray.size by omega] at this
  exact this

section
variable {T : Act → World → Prop} {rest : List (Option Oper × Bool)} {o : Oper} {a : Act} {v : Value} {D : World → Prop}
theorem s_val (hw : Region.wanted o (yielded ops a.tmps) = true) (hv : ∀ W, C W → (execOp a.eval o).run P W = .ok (.value v) W) (h : wpSq P ops T C D rest (a.put o.dst v)) : wpSq P ops T C D ((some o, false) :: rest) a :=
  ⟨v, .inl ⟨hw, fun W hC => by unfold sq; rw [hv W hC]; exact ⟨rfl, rfl⟩⟩, h⟩
theorem s_off (hw : Region.wanted o (yielded ops a.tmps) = false) (h : wpSq P ops T C D rest (a.put o.dst undef)) : wpSq P ops T C D ((some o, false) :: rest) a := ⟨undef, .inr ⟨hw, rfl⟩, h⟩
theorem s_call {f : FuncId} {args : Array Value} (hw : Region.wanted o (yielded ops a.tmps) = true) (hv : ∀ W, C W → (execOp a.eval o).run P W = .ok (.enter f args) W) (hc : ∀ W, C W → Calls P f args W fun e w' => e = .returned v ∧ Below W.heap.size W w') (h : wpSq P ops T C D rest (a.put o.dst v)) : wpSq P ops T C D ((some o, false) :: rest) a :=
  ⟨v, .inl ⟨hw, fun W hC => by unfold sq; rw [hv W hC]; exact ⟨rfl, hc W hC⟩⟩, h⟩
/-- a loud call: what it hands back is known from then on -/
theorem s_loud {f : FuncId} {args : Array Value} {R : World → Ending → World → Prop} (hw : Region.wanted o (yielded ops a.tmps) = true) (hv : ∀ W, D W → (execOp a.eval o).run P W = .ok (.enter f args) W) (hc : ∀ W, D W → Calls P f args W (R W))
    (h : ∀ W, D W → ∀ e w', R W e w' → ∃ u, e = .returned u ∧ ∃ C' D', Steady C' ∧ Steady D' ∧ (∀ w, C' w → C w) ∧ (∀ w, D' w → C' w) ∧ D' w' ∧ wpSq P ops T C' D' rest (a.put o.dst u)) : wpSq P ops T C D ((some o, true) :: rest) a := by
  refine ⟨hw, fun W hC => ?_⟩
  unfold Oper.wp
  rw [hv W hC]
  simp only [Oper.upon]
  refine (hc W hC).mono fun e w' he => ?_
  obtain ⟨u, rfl, hh⟩ := h W hC e w' he
  exact hh
/-- a store -/
theorem s_store (D' : World → Prop) (F : World → World) (hw : Region.wanted o (yielded ops a.tmps) = true) (hv : ∀ W, D W → (execOp a.eval o).run P W = .ok .skip (F W)) (hC : Steady C) (hS : Steady D') (hD : ∀ w, D' w → C w) (hF : ∀ W, D W → D' (F W)) (h : wpSq P ops T C D' rest (a.put o.dst undef)) : wpSq P ops T C D ((some o, true) :: rest) a := by
  refine ⟨hw, fun W hW => ?_⟩
  unfold Oper.wp
  rw [hv W hW]
  simp only [Oper.upon]
  exact ⟨C, D', hC, hS, fun _ h => h, hD, hF W hW, h⟩
theorem s_end (h : ∀ w, D w → T a w) : wpSq P ops T C D [] a := h
end
end
end Go.Proofs.Ytapiffkeclnbbaa.B0
