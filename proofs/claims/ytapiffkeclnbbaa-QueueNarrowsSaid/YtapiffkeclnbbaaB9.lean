import Derived.Test.YtapiffkeclnbbaaProg
import Derived.Below
import Derived.Deep.Draws
import Derived.Deep.AppendLies
import Derived.Maps.AppendAt
import Derived.OwnWalk
import Derived.Laws.MakeOwn
import Derived.Laws.OwnMore
import Derived.Deep.OwnRows
import Derived.Tactics
import Derived.Laws.Slices
import Derived.WalkKit
import Derived.KernelRfl
import Derived.RowKit3
import Derived.Deep.LoopGhost
import Derived.Deep.QuietTactic
import Derived.BigQuiet
import Derived.WideLaws
import Derived.Deep.DeepCutAuto
import Derived.Deep.CutBlock
import Derived.Deep.RegionHeld3
import Derived.Deep.RegionWith
import Derived.Deep.RegionLaw
import Derived.Laws.Rows
import Derived.ArgAppend
import Derived.OrdersHeld
import Derived.Laws.BitsLemmas
import Derived.Laws.StructEq
import Derived.RowKit
import Derived.Lib.Hide
import Derived.Lib.SliceRun
import Derived.StillTail
import Derived.Test.YtapiffkeclnbbaaB0
import Derived.Test.YtapiffkeclnbbaaB2
import Derived.Test.YtapiffkeclnbbaaB4
import Derived.Test.YtapiffkeclnbbaaB7
import Derived.Test.YtapiffkeclnbbaaB8
/-! A region that draws its order, as in B8, with the blocks that its allocations make known to be apart. -/
set_option linter.unusedVariables false
namespace Go.Proofs.Ytapiffkeclnbbaa.B0
open Go.RowKit
section
variable {P : Program} {ops : Array Oper} {md : Region.Mode}

/-- the blocks of G are there -/
def Und (A : World → Prop) (G : Nat → Prop) : Prop := (∃ b, ∀ x, G x → x < b) ∧ ∀ w, A w → ∀ x, G x → x < w.heap.size
theorem Und.blk {A : World → Prop} {G : Nat → Prop} (h : Und A G) (g : Nat) (t : TypeId) (z : Array Value) : Und (fun w => A w ∧ Blk w g t z) (fun x => x = g ∨ G x) := by
  obtain ⟨⟨b, hb⟩, h⟩ := h
  refine ⟨⟨max b (g + 1), fun x hx => ?_⟩, fun w hw x hx => ?_⟩
  · rcases hx with rfl | hx
    · omega
    · have := hb x hx; omega
  · rcases hx with rfl | hx
    · exact hw.2.lt
    · exact h w hw.1 x hx
theorem Und.weak {A A' : World → Prop} {G : Nat → Prop} (h : Und A G) (hh : ∀ w, A' w → A w) : Und A' G := ⟨h.1, fun w hw x hx => h.2 w (hh w hw) x hx⟩
theorem Und.none (A : World → Prop) : Und A fun _ => False := ⟨⟨0, fun _ h => h.elim⟩, fun _ _ _ h => h.elim⟩
/-- what an operation may have added -/
theorem Und.add {A F : World → Prop} {G E : Nat → Prop} (h : Und A G) (hb : ∃ b, ∀ x, E x → x < b) (hE : ∀ w, F w → ∀ x, E x → x < w.heap.size) : Und (fun w => A w ∧ F w) (fun x => E x ∨ G x) := by
  obtain ⟨⟨b, hb1⟩, h⟩ := h
  obtain ⟨c, hc⟩ := hb
  refine ⟨⟨max b c, fun x hx => ?_⟩, fun w hw x hx => ?_⟩
  · rcases hx with hx | hx
    · have := hc x hx; omega
    · have := hb1 x hx; omega
  · rcases hx with hx | hx
    · exact hE w hw.2 x hx
    · exact h w hw.1 x hx
theorem or_swap (E F G : Nat → Prop) : (fun x => E x ∨ (F x ∨ G x)) = (fun x => F x ∨ (E x ∨ G x)) := funext fun x => propext or_left_comm

def nOp (P : Program) (ops : Array Oper) (als : List Nat) (N : Nat) (C : World → Prop) (i : Nat) (K : Act → (World → Prop) → (Nat → Prop) → Prop) (a : Act) (A : World → Prop) (G : Nat → Prop) : Prop :=
  match ops[i]? with
  | none => False
  | some o => if Region.wanted o (yielded ops a.tmps) then
      (if i ∈ als then (∃ mk z t, AllocAt P o a mk z t) ∧ ∀ mk z t, AllocAt P o a mk z t → ∀ g, N ≤ g → ¬ G g → K (a.put o.dst (mk g)) (fun w => A w ∧ Blk w g t z) (fun x => x = g ∨ G x)
       else ∀ w, A w → o.wp P a w (fun a' w' => ∃ (A' : World → Prop) (G' : Nat → Prop), Steady A' ∧ (∀ w, A' w → C w) ∧ Und A' G' ∧ A' w' ∧ K a' A' G') noExit)
    else K (a.put o.dst undef) A G

theorem nOp_mono {als : List Nat} {N i : Nat} {C C' : World → Prop} {K K' : Act → (World → Prop) → (Nat → Prop) → Prop} {a : Act} {A : World → Prop} {G : Nat → Prop} (hA : Steady A) (hAC : ∀ w, A w → C w) (hG : Und A G) (hC : ∀ w, C w → C' w)
    (h : ∀ a A G, Steady A → (∀ w, A w → C w) → Und A G → K a A G → K' a A G) (hh : nOp P ops als N C i K a A G) : nOp P ops als N C' i K' a A G := by
  unfold nOp at *
  split
  · rename_i ho; simp only [ho] at hh
  · rename_i o ho
    simp only [ho] at hh
    split
    · rename_i hw
      simp only [hw, if_true] at hh
      split
      · rename_i hi
        rw [if_pos hi] at hh
        exact ⟨hh.1, fun mk z t hm g hg hng => h _ _ _ (hA.blk _ _ _) (fun w hw => hAC w hw.1) (hG.blk _ _ _) (hh.2 mk z t hm g hg hng)⟩
      · rename_i hi
        rw [if_neg hi] at hh
        exact fun w hw => Oper.wp_mono (fun a' w' ⟨A', G', h1, h2, hg, h3, h4⟩ => ⟨A', G', h1, fun w hw => hC _ (h2 w hw), hg, h3, h _ _ _ h1 h2 hg h4⟩) (hh w hw)
    · rename_i hw
      simp only [hw] at hh
      exact h _ _ _ hA hAC hG hh

def wpN (P : Program) (md : Region.Mode) (ops : Array Oper) (als : List Nat) (N n : Nat) (L : Array Bool → Act → (World → Prop) → Prop) (C : World → Prop) : Nat → Array Bool → Act → (World → Prop) → (Nat → Prop) → Prop
  | 0, listed, a, A, _ => L listed a A
  | f + 1, listed, a, A, G =>
    Region.ready md ops listed ≠ [] ∧ ∀ i ∈ Region.ready md ops listed, i < n ∧ nOp P ops als N C i (wpN P md ops als N n L C f (listed.setIfInBounds i true)) a A G

variable {als : List Nat} {N n : Nat} {L : Array Bool → Act → (World → Prop) → Prop} {C : World → Prop}

theorem wpN_frame {C' : World → Prop} (hC : ∀ w, C' w → C w) :
    ∀ (f : Nat) (listed : Array Bool) (a : Act) (A : World → Prop) (G : Nat → Prop), Steady A → (∀ w, A w → C' w) → Und A G → wpN P md ops als N n L C' f listed a A G → wpN P md ops als N n L C f listed a A G
  | 0, _, _, _, _, _, _, _, h => h
  | f + 1, listed, a, A, G, hA, hAC, hG, h => ⟨h.1, fun i hi => ⟨(h.2 i hi).1, nOp_mono hA hAC hG hC (fun a' A' G' h1 h2 hg h3 => wpN_frame hC f _ a' A' G' h1 h2 hg h3) (h.2 i hi).2⟩⟩

theorem wpN_weak (hL : ∀ listed a (A A' : World → Prop), (∀ w, A' w → A w) → L listed a A → L listed a A') :
    ∀ (f : Nat) (listed : Array Bool) (a : Act) (A A' : World → Prop) (G : Nat → Prop), (∀ w, A' w → A w) → wpN P md ops als N n L C f listed a A G → wpN P md ops als N n L C f listed a A' G
  | 0, _, _, _, _, _, h, hh => hL _ _ _ _ h hh
  | f + 1, listed, a, A, A', G, h, hh => ⟨hh.1, fun i hi => ⟨(hh.2 i hi).1, by
      have h2 := (hh.2 i hi).2
      unfold nOp at *
      split
      · rename_i ho; simp only [ho] at h2
      · rename_i o ho
        simp only [ho] at h2
        split
        · rename_i hw
          simp only [hw, if_true] at h2
          split
          · rename_i hi
            rw [if_pos hi] at h2
            exact ⟨h2.1, fun mk z t hm g hg hng => wpN_weak hL f _ _ _ _ _ (fun w hw => ⟨h w hw.1, hw.2⟩) (h2.2 mk z t hm g hg hng)⟩
          · rename_i hi
            rw [if_neg hi] at h2
            exact fun w hw => h2 w (h w hw)
        · rename_i hw
          simp only [hw] at h2
          exact wpN_weak hL f _ _ _ _ _ h h2⟩⟩

theorem quiet_nOp {i : Nat} {o : Oper} {v : Value} {a : Act} {A : World → Prop} {G : Nat → Prop} (hA : Steady A) (hAC : ∀ w, A w → C w) (hG : Und A G) (hi : ops[i]? = some o) (hal : i ∉ als) (hy : SQuiet P ops C o v a) {K : Act → (World → Prop) → (Nat → Prop) → Prop}
    (h : K (a.put o.dst v) A G) : nOp P ops als N C i K a A G := by
  unfold nOp
  simp only [hi]
  rcases hy with ⟨hwt, hv⟩ | ⟨hwt, rfl⟩
  · simp only [hwt, if_true]
    rw [if_neg hal]
    intro w hw
    have hv := hv w (hAC w hw)
    unfold sq at hv
    unfold Oper.wp
    generalize (execOp a.eval o).run P w = r at *
    cases r with
    | ok nx w' =>
      cases nx <;> simp only [Oper.upon] at hv ⊢
      case value u =>
        obtain ⟨rfl, rfl⟩ := hv
        exact ⟨A, G, hA, hAC, hG, hw, h⟩
      case enter f args =>
        obtain ⟨rfl, hv⟩ := hv
        refine Calls.mono hv fun e w'' he => ?_
        obtain ⟨rfl, hb⟩ := he
        exact ⟨A, G, hA, hAC, hG, hA _ _ hw hb, h⟩
    | halt x w' => cases x <;> simp only at hv
  · simp only [hwt, Bool.false_eq_true, if_false]
    exact h

/-- whatever is apart from oi comes with or without oi's value in its temporary -/
theorem nOp_put {j : Nat} {oi oj : Oper} {v : Value} {X : Act → Prop} (hj : ops[j]? = some oj) (hap : oi.apart ops oj = true)
    (hsi : ∀ cs b, oi.op ≠ .select cs b) (hsj : ∀ cs b, oj.op ≠ .select cs b) {K : Act → (World → Prop) → (Nat → Prop) → Prop} {a : Act} {A : World → Prop} {G : Nat → Prop} (hA : Steady A) (hAC : ∀ w, A w → C w) (hG : Und A G)
    (hX : ∀ a', X a → execOp a'.eval oi = execOp a.eval oi → Region.wanted oi (yielded ops a'.tmps) = Region.wanted oi (yielded ops a.tmps) → X a')
    (hy : X a) (h : nOp P ops als N C j K (a.put oi.dst v) A G) :
    nOp P ops als N C j (fun a' A' G' => X a' ∧ Steady A' ∧ (∀ w, A' w → C w) ∧ Und A' G' ∧ K (a'.put oi.dst v) A' G') a A G := by
  obtain ⟨h1, h2, h3⟩ := Oper.apart_spec hap
  have keep : ∀ u, X (a.put oj.dst u) := fun u => hX _ hy (execOp_put oi hsi a oj.dst u h3) (wanted_put oi a oj.dst u h3)
  have keepD : ∀ d u, X ((⟨a.tmps, d :: a.defers⟩ : Act).put oj.dst u) := fun d u => hX _ hy ((execOp_put oi hsi ⟨a.tmps, d :: a.defers⟩ oj.dst u h3).trans rfl) ((wanted_put oi ⟨a.tmps, d :: a.defers⟩ oj.dst u h3).trans rfl)
  unfold nOp at *
  simp only [hj] at *
  rw [wanted_put oj a oi.dst v h1] at h
  split
  · rename_i hw
    simp only [hw, if_true] at h
    split
    · rename_i hal
      rw [if_pos hal] at h
      obtain ⟨⟨mk, z, t, hm⟩, hh⟩ := h
      refine ⟨⟨mk, z, t, hm.of_same (execOp_put oj hsj a oi.dst v h1).symm⟩, fun mk z t hm g hg hng => ⟨keep _, hA.blk _ _ _, fun w hw => hAC w hw.1, hG.blk _ _ _, ?_⟩⟩
      have := hh mk z t (hm.of_same (execOp_put oj hsj a oi.dst v h1)) g hg hng
      rw [← Act.put_comm a v _ h2]
      exact this
    · rename_i hal
      rw [if_neg hal] at h
      intro w hwA
      have h := h w hwA
      unfold Oper.wp at *
      rw [execOp_put oj hsj a oi.dst v h1] at h
      generalize (execOp a.eval oj).run P w = r at *
      cases r with
      | ok nx w' =>
        cases nx <;> simp only [Oper.upon] at h ⊢
        case value u =>
          obtain ⟨A', G', g1, g2, gg, g3, g4⟩ := h
          exact ⟨A', G', g1, g2, gg, g3, keep u, g1, g2, gg, by rw [← Act.put_comm a v u h2]; exact g4⟩
        case skip =>
          obtain ⟨A', G', g1, g2, gg, g3, g4⟩ := h
          exact ⟨A', G', g1, g2, gg, g3, keep _, g1, g2, gg, by rw [← Act.put_comm a v undef h2]; exact g4⟩
        case defer d =>
          obtain ⟨A', G', g1, g2, gg, g3, g4⟩ := h
          refine ⟨A', G', g1, g2, gg, g3, keepD d _, g1, g2, gg, ?_⟩
          rw [← Act.put_comm _ v undef h2, ← Act.put_defers]
          exact g4
        case enter f args =>
          refine Calls.mono h fun e w'' he => ?_
          cases e with
          | returned u =>
            obtain ⟨A', G', g1, g2, gg, g3, g4⟩ := he
            exact ⟨A', G', g1, g2, gg, g3, keep u, g1, g2, gg, by rw [← Act.put_comm a v u h2]; exact g4⟩
          | panicked c => exact he
          | outgrown => exact he
        case row row args =>
          refine Rows.mono h fun u w'' he => ?_
          obtain ⟨A', G', g1, g2, gg, g3, g4⟩ := he
          exact ⟨A', G', g1, g2, gg, g3, keep u, g1, g2, gg, by rw [← Act.put_comm a v u h2]; exact g4⟩
      | halt x w' =>
        cases x <;> simp only [Oper.upon] at h ⊢
        case panic u => exact h
  · rename_i hw
    simp only [hw] at h
    exact ⟨keep _, hA, hAC, hG, by rw [← Act.put_comm a v undef h2]; exact h⟩

section
variable (hsel : ∀ (j : Nat) (o : Oper) cs b, ops[j]? = some o → o.op ≠ .select cs b) (hs : Region.sinkB md ops n = true) (hc : Region.chainB md ops n = true) (hn : n < ops.size)
  (hdone : ∀ listed a A, L listed a A → ∀ j ∈ Region.ready md ops listed, n ≤ j)

include hsel hs hc hn hdone in
theorem wpN_quiet {i : Nat} {oi : Oper} {v : Value} (hi : ops[i]? = some oi) (hin : i < n) (hal : i ∉ als) :
    ∀ (f : Nat) (listed : Array Bool) (a : Act) (A : World → Prop) (G : Nat → Prop), Steady A → (∀ w, A w → C w) → Und A G → HeadInv md ops n listed → FreeAt md ops listed i oi →
      i ∈ Region.ready md ops listed → SQuiet P ops C oi v a →
      wpN P md ops als N n L C f (listed.setIfInBounds i true) (a.put oi.dst v) A G → wpN P md ops als N n L C (f + 1) listed a A G := by
  intro f
  induction f with
  | zero =>
    intro listed a A G hA hAC hG inv _ hr hy H
    have hun := (mem_ready.1 hr).1
    refine ⟨fun h => (by rw [h] at hr; cases hr), fun j hj => ?_⟩
    have hjn : j < n := by
      rcases Nat.lt_or_ge j n with h | h
      · exact h
      · exact absurd hj (tail_waits hs hc hn inv _ i rfl hin hun j h)
    refine ⟨hjn, ?_⟩
    by_cases hji : j = i
    · subst hji; exact quiet_nOp hA hAC hG hi hal hy H
    · have := hdone _ _ _ H j (ready_mono hj hji)
      omega
  | succ f ih =>
    intro listed a A G hA hAC hG inv hfree hr hy H
    have hun := (mem_ready.1 hr).1
    refine ⟨fun h => (by rw [h] at hr; cases hr), fun j hj => ?_⟩
    have hjn : j < n := by
      rcases Nat.lt_or_ge j n with h | h
      · exact h
      · exact absurd hj (tail_waits hs hc hn inv _ i rfl hin hun j h)
    refine ⟨hjn, ?_⟩
    by_cases hji : j = i
    · subst hji; exact quiet_nOp hA hAC hG hi hal hy H
    · have h1 := (H.2 j (ready_mono hj hji)).2
      obtain ⟨hjun, oj, hoj, hall⟩ := mem_ready.1 hj
      have h2 := nOp_put (X := SQuiet P ops C oi v) hoj (hfree j oj hoj hji hjun (not_after hr hall)) (fun cs b => hsel i oi cs b hi) (fun cs b => hsel j oj cs b hoj) hA hAC hG (fun a' hx he hw => hx.of_same he hw) hy h1
      refine nOp_mono hA hAC hG (fun _ h => h) (fun a' A' G' _ _ _ h3 => ?_) h2
      refine ih (listed.setIfInBounds j true) a' A' G' h3.2.1 h3.2.2.1 h3.2.2.2.1 (inv.set hj hjn) (hfree.set hjun) (ready_mono hr (Ne.symm hji)) h3.1 ?_
      rw [Array.setIfInBounds_comm _ _ hji]
      exact h3.2.2.2.2

include hsel hs hc hn hdone in
/-- an operation with allocations beside it is taken first: X: what is known of it in whatever state of the temporaries -/
theorem wpN_first {i : Nat} {oi : Oper} {π : Type} [Inhabited π] (mk : π → Value) (F : π → World → Prop) (E : π → Nat → Prop) (X : Act → Prop) (hi : ops[i]? = some oi) (hin : i < n) (hF : ∀ p, Steady (F p)) (hE : ∀ p w, F p w → ∀ x, E p x → x < w.heap.size) (hfr : ∀ G : Nat → Prop, (∃ b, ∀ x, G x → x < b) → ∃ p, ∀ x, E p x → ¬ G x)
    (hL : ∀ listed a (A A' : World → Prop), (∀ w, A' w → A w) → L listed a A → L listed a A')
    (hX : ∀ a a', X a → execOp a'.eval oi = execOp a.eval oi → Region.wanted oi (yielded ops a'.tmps) = Region.wanted oi (yielded ops a.tmps) → X a')
    (A0 : World → Prop) (hdo : ∀ (K : Act → (World → Prop) → (Nat → Prop) → Prop) (a : Act) (A : World → Prop) (G : Nat → Prop), X a → Steady A → (∀ w, A w → C w) → Und A G → (∀ w, A w → A0 w) → (∀ p, (∀ x, E p x → ¬ G x) → K (a.put oi.dst (mk p)) (fun w => A w ∧ F p w) (fun x => E p x ∨ G x)) → nOp P ops als N C i K a A G)
    (hap : ∀ j ∈ als, ∀ k ∈ als, j ≠ k → ∀ oj ok, ops[j]? = some oj → ops[k]? = some ok → oj.apart ops ok = true) :
    ∀ (f : Nat) (listed : Array Bool) (a : Act) (A : World → Prop) (G : Nat → Prop), Steady A → (∀ w, A w → C w) → Und A G → (∀ w, A w → A0 w) → HeadInv md ops n listed → FreeAt md ops listed i oi → OnlyAls md ops als i listed →
      i ∈ Region.ready md ops listed → X a → (∀ j ∈ als, j ≠ i → listed.getD j true = false → ∃ oj, ops[j]? = some oj ∧ Region.wanted oj (yielded ops a.tmps) = true ∧ ∃ m z t, AllocAt P oj a m z t) →
      (∀ p, (∀ x, E p x → ¬ G x) → wpN P md ops als N n L C f (listed.setIfInBounds i true) (a.put oi.dst (mk p)) (fun w => A w ∧ F p w) (fun x => E p x ∨ G x)) → (∃ p, ∀ x, E p x → ¬ G x) → wpN P md ops als N n L C (f + 1) listed a A G := by
  intro f
  induction f with
  | zero =>
    intro listed a A G hA hAC hG hA0 inv hfree hon hr hx hals H hex
    have hun := (mem_ready.1 hr).1
    refine ⟨fun h => (by rw [h] at hr; cases hr), fun j hj => ?_⟩
    have hjn : j < n := by
      rcases Nat.lt_or_ge j n with h | h
      · exact h
      · exact absurd hj (tail_waits hs hc hn inv _ i rfl hin hun j h)
    refine ⟨hjn, ?_⟩
    by_cases hji : j = i
    · subst hji; exact hdo _ _ _ _ hx hA hAC hG hA0 H
    · obtain ⟨p, hp⟩ := hex
      have := hdone _ _ _ (H p hp) j (ready_mono hj hji)
      omega
  | succ f ih =>
    intro listed a A G hA hAC hG hA0 inv hfree hon hr hx hals H hex
    have hun := (mem_ready.1 hr).1
    refine ⟨fun h => (by rw [h] at hr; cases hr), fun j hj => ?_⟩
    have hjn : j < n := by
      rcases Nat.lt_or_ge j n with h | h
      · exact h
      · exact absurd hj (tail_waits hs hc hn inv _ i rfl hin hun j h)
    refine ⟨hjn, ?_⟩
    by_cases hji : j = i
    · subst hji; exact hdo _ _ _ _ hx hA hAC hG hA0 H
    · rcases hon listed (fun _ h => .inl h) inv.size (fun _ h => h) j hj with h | ⟨hjal, _⟩
      · exact absurd h hji
      · obtain ⟨hjun, oj', hoj', hall⟩ := mem_ready.1 hj
        obtain ⟨oj, hoj, hwj, mj, zj, tj, hmj⟩ := hals j hjal hji hjun
        obtain rfl : oj = oj' := Option.some.inj (hoj.symm.trans hoj')
        obtain ⟨g1, g2, g3⟩ := Oper.apart_spec (hfree j oj hoj hji hjun (not_after hr hall))
        have hsi : ∀ cs b, oi.op ≠ .select cs b := fun cs b => hsel i oi cs b hi
        have hsj : ∀ cs b, oj.op ≠ .select cs b := fun cs b => hsel j oj cs b hoj
        unfold nOp
        simp only [hoj, hwj, if_true, hjal]
        refine ⟨⟨mj, zj, tj, hmj⟩, fun m z t hm g hg hng => ?_⟩
        refine ih (listed.setIfInBounds j true) _ _ _ (hA.blk _ _ _) (fun w hw => hAC w hw.1) (hG.blk _ _ _) (fun w hw => hA0 w hw.1) (inv.set hj hjn) (hfree.set hjun) (hon.set hjal hji) (ready_mono hr (Ne.symm hji))
          (hX a _ hx (execOp_put oi hsi a oj.dst _ g3) (wanted_put oi a oj.dst _ g3)) ?_ ?_ (hfr _ (hG.blk (A := A) g t z).1)
        · intro k hk hki hkun
          have hkj : k ≠ j := by
            rintro rfl
            have hlt : k < listed.size := by rw [inv.size]; exact (Array.getElem?_eq_some_iff.1 hoj).1
            simp [hlt] at hkun
          rw [getD_set_ne true (Ne.symm hkj)] at hkun
          obtain ⟨ok, hok, hwk, mk', z', t', hmk⟩ := hals k hk hki hkun
          obtain ⟨q1, q2, q3⟩ := Oper.apart_spec (hap j hjal k hk (Ne.symm hkj) oj ok hoj hok)
          exact ⟨ok, hok, (wanted_put ok a oj.dst _ q1).trans hwk, mk', z', t', hmk.of_same (execOp_put ok (fun cs b => hsel k ok cs b hok) a oj.dst _ q1)⟩
        · intro p hp
          have h1 := ((H p fun x hx h => hp x hx (.inr h)).2 j (ready_mono hj hji)).2
          unfold nOp at h1
          simp only [hoj] at h1
          rw [wanted_put oj a oi.dst _ g1, if_pos hwj, if_pos hjal] at h1
          have h2 := h1.2 m z t (hm.of_same (execOp_put oj hsj a oi.dst _ g1)) g hg (fun h => h.elim (fun h => hp g h (.inl rfl)) hng)
          rw [Act.put_comm a _ _ g2, Array.setIfInBounds_comm _ _ (Ne.symm hji), or_swap (fun x => x = g) (E p) G] at h2
          exact wpN_weak hL f _ _ _ _ _ (fun w hw => ⟨⟨hw.1.1, hw.2⟩, hw.1.2⟩) h2
end

theorem wpAny_of_N {g : Nat} {Q' : Exit → Act → World → Prop} (hN : ∀ w, C w → N ≤ w.heap.size) (hL : ∀ listed a A w, A w → L listed a A → wpAny P md ops Q' g listed a w) :
    ∀ (f : Nat) (listed : Array Bool) (a : Act) (A : World → Prop) (G : Nat → Prop) (w : World), Steady A → (∀ w, A w → C w) → Und A G → A w → wpN P md ops als N n L C f listed a A G → wpAny P md ops Q' (f + g) listed a w
  | 0, listed, a, A, _, w, _, _, _, hw, h => by rw [Nat.zero_add]; exact hL _ _ _ _ hw h
  | f + 1, listed, a, A, G, w, hA, hAC, hG, hw, h => by
    rw [show f + 1 + g = (f + g) + 1 by omega]
    refine ⟨fun h0 => absurd h0 h.1, fun i hi => ?_⟩
    have h2 := (h.2 i hi).2
    unfold nOp at h2
    unfold wpOp
    split at h2
    · exact h2.elim
    · rename_i o ho
      rw [ho]
      simp only
      split at h2
      · rename_i hwt
        rw [if_pos hwt]
        refine .inl ?_
        split at h2
        · obtain ⟨⟨mk, z, t, hm⟩, hh⟩ := h2
          unfold Oper.wp
          rw [hm w]
          simp only [Oper.upon]
          exact wpAny_of_N hN hL f _ _ _ _ _ (hA.blk _ _ _) (fun w hw => hAC w hw.1) (hG.blk _ _ _) ⟨hA _ _ hw ((Below.refl _ _).alloc (Nat.le_refl _) _), Blk.new _ _ _⟩ (hh mk z t hm w.heap.size (hN _ (hAC _ hw)) (fun h => Nat.lt_irrefl _ (hG.2 w hw _ h)))
        · have h2 := h2 w hw
          unfold Oper.wp at *
          generalize (execOp a.eval o).run P w = r at *
          cases r with
          | ok nx w' =>
            cases nx <;> simp only [Oper.upon] at h2 ⊢
            case value u => obtain ⟨A', G', g1, g2, gg, g3, g4⟩ := h2; exact wpAny_of_N hN hL f _ _ _ _ _ g1 g2 gg g3 g4
            case skip => obtain ⟨A', G', g1, g2, gg, g3, g4⟩ := h2; exact wpAny_of_N hN hL f _ _ _ _ _ g1 g2 gg g3 g4
            case defer d => obtain ⟨A', G', g1, g2, gg, g3, g4⟩ := h2; exact wpAny_of_N hN hL f _ _ _ _ _ g1 g2 gg g3 g4
            case enter fn args =>
              refine Calls.mono h2 fun e w'' he => ?_
              cases e with
              | returned u => obtain ⟨A', G', g1, g2, gg, g3, g4⟩ := he; exact wpAny_of_N hN hL f _ _ _ _ _ g1 g2 gg g3 g4
              | panicked c => exact he.elim
              | outgrown => exact (noExit_lets he).elim
            case row row args => exact Rows.mono h2 fun u w'' he => by obtain ⟨A', G', g1, g2, gg, g3, g4⟩ := he; exact wpAny_of_N hN hL f _ _ _ _ _ g1 g2 gg g3 g4
          | halt x w' =>
            cases x <;> simp only [Oper.upon] at h2 ⊢
            case panic u => exact h2.elim
      · rename_i hwt
        rw [if_neg hwt]
        exact wpAny_of_N hN hL f _ _ _ _ _ hA hAC hG hw h2

/-- the walk: 0 quiet, 1 a call with allocations beside it, 2 an allocation, 3 what comes alone -/
def wpNq (P : Program) (ops : Array Oper) (als : List Nat) (N : Nat) (T : Act → World → Prop) : (World → Prop) → (World → Prop) → (Nat → Prop) → List (Option Oper × Nat) → Act → Prop
  | _, A, _, [], a => ∀ w, A w → T a w
  | _, _, _, (none, _) :: _, _ => False
  | C, A, G, (some o, 0) :: r, a => ∃ v, SQuiet P ops C o v a ∧ wpNq P ops als N T C A G r (a.put o.dst v)
  | C, A, G, (some o, 1) :: r, a => Region.wanted o (yielded ops a.tmps) = true ∧ AlsOK P ops als a ∧ ∃ (π : Type) (_ : Inhabited π) (mk : π → Value) (F C' : π → World → Prop), (∀ p, Steady (F p)) ∧ (∀ p, Steady (C' p)) ∧ (∀ p w, C' p w → C w) ∧ (∀ p w, A w → F p w → C' p w) ∧
      (∃ f args, (∀ w, A w → (execOp a.eval o).run P w = .ok (.enter f args) w) ∧ ∀ w, A w → Calls P f args w fun e w' => ∃ p, e = .returned (mk p) ∧ Below w.heap.size w w' ∧ F p w') ∧ ∀ p, wpNq P ops als N T (C' p) (fun w => A w ∧ F p w) G r (a.put o.dst (mk p))
  | C, A, G, (some o, 2) :: r, a => Region.wanted o (yielded ops a.tmps) = true ∧ AlsOK P ops als a ∧ ∃ m z t, AllocAt P o a m z t ∧ ∀ g, N ≤ g → ¬ G g → wpNq P ops als N T C (fun w => A w ∧ Blk w g t z) (fun x => x = g ∨ G x) r (a.put o.dst (m g))
  | C, A, G, (some o, _ + 3) :: r, a => Region.wanted o (yielded ops a.tmps) = true ∧ ∀ w, A w → o.wp P a w (fun a' w' => ∃ C' A' : World → Prop, Steady C' ∧ Steady A' ∧ (∀ w, C' w → C w) ∧ (∀ w, A' w → C' w) ∧ A' w' ∧ wpNq P ops als N T C' A' (fun _ => False) r a') noExit

theorem wpN_of_q {n g : Nat} {T : Act → World → Prop} (hsel : Region.noSelect ops = true) (hs : Region.sinkB md ops n = true) (hc : Region.chainB md ops n = true) (hn : n < ops.size) (hap : apB ops als = true) :
    ∀ (ord : List (Nat × Nat)) (C A : World → Prop) (G : Nat → Prop) (listed : Array Bool) (a : Act), Steady C → Steady A → (∀ w, A w → C w) → Und A G → HeadInv md ops n listed → ordH md ops als g n ord listed = true → wpNq P ops als N T C A G (ord.map fun p => (ops[p.1]?, p.2)) a →
      wpN P md ops als N n (fun listed' a' A' => Region.seqB md ops g n listed' = true ∧ ∀ w', A' w' → T a' w') C ord.length listed a A G := by
  have hsel' := Region.noSelect_spec hsel
  have hdone : ∀ listed' a' (A' : World → Prop), (Region.seqB md ops g n listed' = true ∧ ∀ w', A' w' → T a' w') → ∀ j ∈ Region.ready md ops listed', n ≤ j := fun listed' a' A' hL => seqB_ready hL.1
  have hL : ∀ listed a (A A' : World → Prop), (∀ w, A' w → A w) → (Region.seqB md ops g n listed = true ∧ ∀ w', A w' → T a w') → (Region.seqB md ops g n listed = true ∧ ∀ w', A' w' → T a w') := fun _ _ _ _ h hh => ⟨hh.1, fun w hw => hh.2 w (h w hw)⟩
  have hap' : ∀ j ∈ als, ∀ k ∈ als, j ≠ k → ∀ oj ok, ops[j]? = some oj → ops[k]? = some ok → oj.apart ops ok = true := by
    intro j hj k hk hjk oj ok hoj hok
    unfold apB at hap
    rw [List.all_eq_true] at hap
    have h1 := hap j hj
    rw [List.all_eq_true] at h1
    have h2 := h1 k hk
    simpa [hjk, hoj, hok] using h2
  intro ord
  induction ord with
  | nil => intro C A G listed a _ _ _ _ _ hB h; exact ⟨by simpa [ordH] using hB, h⟩
  | cons kb r ih =>
    obtain ⟨k, b⟩ := kb
    intro C A G listed a hC hA hAC hG inv hB h
    match b, hB, h with
    | 0, hB, h =>
      simp only [ordH, Bool.and_eq_true, decide_eq_true_eq, Bool.not_eq_true'] at hB
      obtain ⟨⟨⟨⟨hkn, hr⟩, hf⟩, hal⟩, hB'⟩ := hB
      have hr' : k ∈ Region.ready md ops listed := by simpa using hr
      obtain ⟨_, o, h0, _⟩ := mem_ready.1 hr'
      simp only [List.map_cons, h0, wpNq] at h
      obtain ⟨v, hy, hK⟩ := h
      exact wpN_quiet hsel' hs hc hn hdone h0 hkn (by simpa using hal) r.length listed a A G hA hAC hG inv (Region.free_spec h0 hf) hr' hy (ih C A G _ _ hC hA hAC hG (inv.set hr' hkn) hB' hK)
    | 1, hB, h =>
      simp only [ordH, Bool.and_eq_true, decide_eq_true_eq, Bool.not_eq_true'] at hB
      obtain ⟨⟨⟨⟨⟨hkn, hr⟩, hf⟩, hal⟩, hon⟩, hB'⟩ := hB
      have hal' : k ∉ als := by simpa using hal
      have hr' : k ∈ Region.ready md ops listed := by simpa using hr
      obtain ⟨_, o, h0, _⟩ := mem_ready.1 hr'
      simp only [List.map_cons, h0, wpNq] at h
      obtain ⟨hwt, hals, π, hinh, mk, F, C', hF, hC', hle, hFC, ⟨f, args, hv, hcall⟩, hK⟩ := h
      have e0 : (fun x => False ∨ G x) = G := funext fun x => propext (by simp)
      refine wpN_first (π := π) hsel' hs hc hn hdone mk F (fun _ _ => False) (fun a' => Region.wanted o (yielded ops a'.tmps) = true ∧ ∀ w, A w → (execOp a'.eval o).run P w = .ok (.enter f args) w) h0 hkn hF (fun _ _ _ _ h => h.elim) (fun _ _ => ⟨default, fun _ h => h.elim⟩) hL (fun a1 a2 hx he hw => ⟨by rw [hw]; exact hx.1, by rw [he]; exact hx.2⟩) A ?_ hap'
        r.length listed a A G hA hAC hG (fun _ h => h) inv (Region.free_spec h0 hf) (onlyB_spec inv.size hon) hr' ⟨hwt, hv⟩ (fun j hj _ _ => hals j hj)
        (fun p _ => by simpa only [false_or] using wpN_frame (hle p) _ _ _ _ _ (hA.both (hF p)) (fun w hw => hFC p w hw.1 hw.2) (Und.weak hG fun w hw => hw.1) (ih (C' p) _ _ _ _ (hC' p) (hA.both (hF p)) (fun w hw => hFC p w hw.1 hw.2) (Und.weak hG fun w hw => hw.1) (inv.set hr' hkn) hB' (hK p))) ⟨default, fun _ h => h.elim⟩
      intro K a1 A1 G1 hx hA1 hA1C hG1 hA10 hK1
      unfold nOp
      simp only [h0, hx.1, if_true]
      rw [if_neg hal']
      intro w hw
      unfold Oper.wp
      rw [hx.2 w (hA10 w hw)]
      simp only [Oper.upon]
      refine (hcall w (hA10 w hw)).mono fun e w' he => ?_
      obtain ⟨p, rfl, hb, hp⟩ := he
      have hk1 := hK1 p fun _ h => h.elim
      rw [show (fun x => False ∨ G1 x) = G1 from funext fun x => propext (by simp)] at hk1
      exact ⟨fun w => A1 w ∧ F p w, G1, hA1.both (hF p), fun w hw => hA1C w hw.1, Und.weak hG1 fun w hw => hw.1, ⟨hA1 _ _ hw hb, hp⟩, hk1⟩
    | 2, hB, h =>
      simp only [ordH, Bool.and_eq_true, decide_eq_true_eq] at hB
      obtain ⟨⟨⟨⟨⟨hkn, hr⟩, hf⟩, hal⟩, hon⟩, hB'⟩ := hB
      have hal' : k ∈ als := by simpa using hal
      have hr' : k ∈ Region.ready md ops listed := by simpa using hr
      obtain ⟨_, o, h0, _⟩ := mem_ready.1 hr'
      simp only [List.map_cons, h0, wpNq] at h
      obtain ⟨hwt, hals, m, z, t, hm, hK⟩ := h
      have hfr : ∀ G : Nat → Prop, (∃ b, ∀ x, G x → x < b) → ∃ p : Subtype fun g : Nat => N ≤ g, ∀ x, x = p.1 → ¬ G x := fun G ⟨b, hb⟩ => ⟨⟨max N b, Nat.le_max_left _ _⟩, fun x hx h => by have := hb x h; simp only at hx; omega⟩
      letI : Inhabited (Subtype fun g : Nat => N ≤ g) := ⟨⟨N, Nat.le_refl _⟩⟩
      refine wpN_first (π := Subtype fun g : Nat => N ≤ g) hsel' hs hc hn hdone (fun p => m p.1) (fun p w => Blk w p.1 t z) (fun p x => x = p.1) (fun a' => Region.wanted o (yielded ops a'.tmps) = true ∧ AllocAt P o a' m z t) h0 hkn (fun p _ _ h hb => h.call hb) (fun p w hF x hx => hx ▸ hF.lt) hfr hL (fun a1 a2 hx he hw => ⟨by rw [hw]; exact hx.1, hx.2.of_same he⟩) A ?_ hap'
        r.length listed a A G hA hAC hG (fun _ h => h) inv (Region.free_spec h0 hf) (onlyB_spec inv.size hon) hr' ⟨hwt, hm⟩ (fun j hj _ _ => hals j hj)
        (fun p hp => ih C _ _ _ _ hC (hA.blk _ _ _) (fun w hw => hAC w hw.1) (hG.blk _ _ _) (inv.set hr' hkn) hB' (hK p.1 p.2 (hp _ rfl))) (hfr G hG.1)
      intro K a1 A1 G1 hx hA1 hA1C hG1 hA10 hK1
      unfold nOp
      simp only [h0, hx.1, if_true]
      rw [if_pos hal']
      refine ⟨⟨m, z, t, hx.2⟩, fun m' z' t' hm' g hg hng => ?_⟩
      obtain ⟨rfl, rfl, rfl⟩ := hx.2.unique hm'
      exact hK1 ⟨g, hg⟩ fun x hx => hx ▸ hng
    | c + 3, hB, h =>
      simp only [ordH, Bool.and_eq_true, decide_eq_true_eq, Bool.not_eq_true'] at hB
      obtain ⟨⟨⟨hkn, hr⟩, hal⟩, hB'⟩ := hB
      have hal' : k ∉ als := by simpa using hal
      have hr' : k ∈ Region.ready md ops listed := by rw [hr]; simp
      obtain ⟨_, o, h0, _⟩ := mem_ready.1 hr'
      have hq : Region.wanted o (yielded ops a.tmps) = true ∧ ∀ w, A w → o.wp P a w (fun a' w' => ∃ C' A' : World → Prop, Steady C' ∧ Steady A' ∧ (∀ w, C' w → C w) ∧ (∀ w, A' w → C' w) ∧ A' w' ∧ wpNq P ops als N T C' A' (fun _ => False) (r.map fun p => (ops[p.1]?, p.2)) a') noExit := by
        rw [List.map_cons, h0] at h
        exact h
      refine ⟨fun h => (by rw [h] at hr'; cases hr'), fun j hj => ?_⟩
      rw [hr] at hj
      have hjk : j = k := by simpa using hj
      subst hjk
      refine ⟨hkn, ?_⟩
      unfold nOp
      simp only [h0, hq.1, if_true]
      rw [if_neg hal']
      intro w hw
      refine Oper.wp_mono (fun a' w' h' => ?_) (hq.2 w hw)
      obtain ⟨C', A', g1, g2, g3, g4, g5, g6⟩ := h'
      exact ⟨A', _, g2, fun w hw => g3 _ (g4 w hw), Und.none _, g5, wpN_frame g3 _ _ _ _ _ g2 g4 (Und.none _) (ih C' A' _ _ _ g1 g2 g4 (Und.none _) (inv.set hr' hkn) hB' g6)⟩

theorem wp_region_nk {id : Nat} {Q : Exit → Act → World → Prop} {a : Act} {w : World} {l : List Oper} (n : Nat) (ord : List (Nat × Nat)) (als : List Nat) (N : Nat) (C A : World → Prop) (hm : P.follows .mixedOrders = true) (hB : ordHB .any l.toArray als n ord = true) (hS : Steady C) (hSA : Steady A) (hAC : ∀ w, A w → C w) (hN : ∀ w, C w → N ≤ w.heap.size) (hC : A w.drew)
    (h : wpNq P l.toArray als N (fun a' w' => wpList P l.toArray Q (l.drop n) a' w') C A (fun _ => False) (ord.map fun p => (l.toArray[p.1]?, p.2)) a) : (Code.region id l.toArray true).wp P Q a w := by
  simp only [ordHB, Bool.and_eq_true, decide_eq_true_eq] at hB
  obtain ⟨⟨⟨⟨⟨⟨hsel, hn⟩, hs⟩, hc⟩, hlen⟩, hap⟩, hord⟩ := hB
  have hdl : (l.drop n).length = l.toArray.size - n := by simp
  have inv0 : HeadInv .any l.toArray n (Array.replicate l.toArray.size false) :=
    ⟨by simp, fun j oj _ hl => (by rw [getD_replicate_false] at hl; cases hl), fun t _ ht => getD_in (by simpa using ht) (getD_replicate_false _ _)⟩
  have H := wpN_of_q (md := .any) (g := l.toArray.size - n) hsel hs hc hn hap ord C A _ _ a hS hSA hAC (Und.none _) inv0 hord h
  refine wp_region_any hm ?_
  have := wpAny_of_N (Q' := Q) (g := l.toArray.size - n) hN (fun listed a' A' w' hw' hL => by
    have := wpAny_of_seq (md := .any) (Q' := Q) (l.drop n) n listed a' w' (fun j => by simp [List.getElem?_drop]) (by rw [hdl]; exact hL.1) (hL.2 w' hw')
    rwa [hdl] at this) _ _ _ _ _ w.drew hSA hAC (Und.none _) hC H
  rw [hlen, show n + (l.toArray.size - n) = l.toArray.size by omega] at this
  exact this

theorem wp_region_n {id : Nat} {Q : Exit → Act → World → Prop} {a : Act} {w : World} {l : List Oper} (n : Nat) (ord : List (Nat × Nat)) (als : List Nat) (N : Nat) (C : World → Prop) (hm : P.follows .mixedOrders = true) (hB : ordHB .any l.toArray als n ord = true) (hS : Steady C) (hN : ∀ w, C w → N ≤ w.heap.size) (hC : C w.drew)
    (h : wpNq P l.toArray als N (fun a' w' => wpList P l.toArray Q (l.drop n) a' w') C C (fun _ => False) (ord.map fun p => (l.toArray[p.1]?, p.2)) a) : (Code.region id l.toArray true).wp P Q a w :=
  wp_region_nk n ord als N C C hm hB hS hS (fun _ h => h) hN hC h

section
variable {T : Act → World → Prop} {rest : List (Option Oper × Nat)} {o : Oper} {a : Act} {v : Value} {A : World → Prop} {G : Nat → Prop}
theorem n_val (hw : Region.wanted o (yielded ops a.tmps) = true) (hv : ∀ W, C W → (execOp a.eval o).run P W = .ok (.value v) W) (h : wpNq P ops als N T C A G rest (a.put o.dst v)) : wpNq P ops als N T C A G ((some o, 0) :: rest) a :=
  ⟨v, .inl ⟨hw, fun W hC => by unfold sq; rw [hv W hC]; exact ⟨rfl, rfl⟩⟩, h⟩
theorem n_off (hw : Region.wanted o (yielded ops a.tmps) = false) (h : wpNq P ops als N T C A G rest (a.put o.dst undef)) : wpNq P ops als N T C A G ((some o, 0) :: rest) a := ⟨undef, .inr ⟨hw, rfl⟩, h⟩
theorem n_call {f : FuncId} {args : Array Value} (hw : Region.wanted o (yielded ops a.tmps) = true) (hv : ∀ W, C W → (execOp a.eval o).run P W = .ok (.enter f args) W) (hc : ∀ W, C W → Calls P f args W fun e w' => e = .returned v ∧ Below W.heap.size W w') (h : wpNq P ops als N T C A G rest (a.put o.dst v)) : wpNq P ops als N T C A G ((some o, 0) :: rest) a :=
  ⟨v, .inl ⟨hw, fun W hC => by unfold sq; rw [hv W hC]; exact ⟨rfl, hc W hC⟩⟩, h⟩
/-- a call that hands back something new, with allocations beside it or none -/
theorem n_loud {f : FuncId} {args : Array Value} (π : Type) [hi : Inhabited π] (mk : π → Value) (F C' : π → World → Prop) (hF : ∀ p, Steady (F p)) (hC' : ∀ p, Steady (C' p)) (hle : ∀ p w, C' p w → C w) (hFC : ∀ p w, A w → F p w → C' p w) (hw : Region.wanted o (yielded ops a.tmps) = true) (hals : AlsOK P ops als a)
    (hv : ∀ W, A W → (execOp a.eval o).run P W = .ok (.enter f args) W) (hc : ∀ W, A W → Calls P f args W fun e w' => ∃ p, e = .returned (mk p) ∧ Below W.heap.size W w' ∧ F p w') (h : ∀ p, wpNq P ops als N T (C' p) (fun w => A w ∧ F p w) G rest (a.put o.dst (mk p))) : wpNq P ops als N T C A G ((some o, 1) :: rest) a :=
  ⟨hw, hals, π, hi, mk, F, C', hF, hC', hle, hFC, ⟨f, args, hv, hc⟩, h⟩
theorem n_alloc {m : Nat → Value} {z : Array Value} {t : TypeId} (hw : Region.wanted o (yielded ops a.tmps) = true) (hals : AlsOK P ops als a) (hm : AllocAt P o a m z t) (h : ∀ g, N ≤ g → ¬ G g → wpNq P ops als N T C (fun w => A w ∧ Blk w g t z) (fun x => x = g ∨ G x) rest (a.put o.dst (m g))) : wpNq P ops als N T C A G ((some o, 2) :: rest) a :=
  ⟨hw, hals, m, z, t, hm, h⟩
/-- what comes alone: whatever it leaves -/
theorem n_alone (hw : Region.wanted o (yielded ops a.tmps) = true) (h : ∀ w, A w → o.wp P a w (fun a' w' => ∃ C' A' : World → Prop, Steady C' ∧ Steady A' ∧ (∀ w, C' w → C w) ∧ (∀ w, A' w → C' w) ∧ A' w' ∧ wpNq P ops als N T C' A' (fun _ => False) rest a') noExit) : wpNq P ops als N T C A G ((some o, 3) :: rest) a := ⟨hw, h⟩
/-- a call that comes alone and may change what it is handed -/
theorem n_deed {f : FuncId} {args : Array Value} {R : World → Ending → World → Prop} (hw : Region.wanted o (yielded ops a.tmps) = true) (hv : ∀ W, A W → (execOp a.eval o).run P W = .ok (.enter f args) W) (hc : ∀ W, A W → Calls P f args W (R W))
    (h : ∀ W, A W → ∀ e w', R W e w' → ∃ u, e = .returned u ∧ ∃ C' A' : World → Prop, Steady C' ∧ Steady A' ∧ (∀ w, C' w → C w) ∧ (∀ w, A' w → C' w) ∧ A' w' ∧ wpNq P ops als N T C' A' (fun _ => False) rest (a.put o.dst u)) : wpNq P ops als N T C A G ((some o, 3) :: rest) a := by
  refine ⟨hw, fun W hC => ?_⟩
  unfold Oper.wp
  rw [hv W hC]
  simp only [Oper.upon]
  refine (hc W hC).mono fun e w' he => ?_
  obtain ⟨u, rfl, hh⟩ := h W hC e w' he
  exact hh
theorem n_store (A' : World → Prop) (F : World → World) (hw : Region.wanted o (yielded ops a.tmps) = true) (hv : ∀ W, A W → (execOp a.eval o).run P W = .ok .skip (F W)) (hC : Steady C) (hS : Steady A') (hle : ∀ w, A' w → C w) (hF : ∀ W, A W → A' (F W)) (h : wpNq P ops als N T C A' (fun _ => False) rest (a.put o.dst undef)) : wpNq P ops als N T C A G ((some o, 3) :: rest) a := by
  refine ⟨hw, fun W hW => ?_⟩
  unfold Oper.wp
  rw [hv W hW]
  simp only [Oper.upon]
  exact ⟨C, A', hC, hS, fun _ h => h, hle, hF W hW, h⟩
theorem n_end (h : ∀ w, A w → T a w) : wpNq P ops als N T C A G [] a := h
end
end
end Go.Proofs.Ytapiffkeclnbbaa.B0
