import Derived.Test.YtapiffkeclnbbaaProg
import Derived.Below
import Derived.Deep.Draws
import Derived.Deep.AppendLies
import Derived.Maps.AppendAt
import Derived.OwnWalk
import Derived.Laws.MakeOwn
import Derived.Laws.OwnMore
import Derived.Deep.OwnRows
import Derived.Tactics
import Derived.Laws.Slices
import Derived.WalkKit
import Derived.KernelRfl
import Derived.RowKit3
import Derived.Deep.LoopGhost
import Derived.Deep.QuietTactic
import Derived.BigQuiet
import Derived.WideLaws
import Derived.Deep.DeepCutAuto
import Derived.Deep.CutBlock
import Derived.Deep.RegionHeld3
import Derived.Deep.RegionWith
import Derived.Deep.RegionLaw
import Derived.Laws.Rows
import Derived.ArgAppend
import Derived.OrdersHeld
import Derived.Laws.BitsLemmas
import Derived.Laws.StructEq
import Derived.RowKit
import Derived.Lib.Hide
import Derived.Lib.SliceRun
import Derived.StillTail
import Derived.Test.YtapiffkeclnbbaaB0
import Derived.Test.YtapiffkeclnbbaaB2
import Derived.Test.YtapiffkeclnbbaaB4
import Derived.Test.YtapiffkeclnbbaaB7
/-! A region that draws its order: quiet operations, calls that hand back what they made, allocations that may come before or behind such a call, stores. One walk of one order; what is known of the world is an assertion. -/
set_option linter.unusedVariables false
namespace Go.Proofs.Ytapiffkeclnbbaa.B0
open Go.RowKit
section
variable {P : Program} {ops : Array Oper} {md : Region.Mode}

/-- the operation makes a block of the type t with the cells z, wherever it comes -/
def AllocAt (P : Program) (o : Oper) (a : Act) (mk : Nat → Value) (z : Array Value) (t : TypeId) : Prop :=
  ∀ w, (execOp a.eval o).run P w = .ok (.value (mk w.heap.size)) (w.alloc (.cells z t))

theorem AllocAt.unique {o : Oper} {a : Act} {mk mk' : Nat → Value} {z z' : Array Value} {t t' : TypeId} (h : AllocAt P o a mk z t) (h' : AllocAt P o a mk' z' t') : mk = mk' ∧ z = z' ∧ t = t' := by
  have key : ∀ g, mk g = mk' g ∧ z = z' ∧ t = t' := by
    intro g
    have e := (h { (default : World) with heap := Array.replicate g (.cells #[] 0) }).symm.trans (h' _)
    injection e with e1 e2
    injection e1 with e1
    simp only [Array.size_replicate] at e1
    have e3 := congrArg (fun w : World => w.heap[g]?) e2
    simp only [World.alloc] at e3
    rw [Array.getElem?_push, Array.getElem?_push] at e3
    simp only [Array.size_replicate, if_true] at e3
    injection e3 with e3
    injection e3 with e3 e4 _
    exact ⟨e1, e3, e4⟩
  exact ⟨funext fun g => (key g).1, (key 0).2⟩

theorem AllocAt.of_same {o : Oper} {a a' : Act} {mk : Nat → Value} {z : Array Value} {t : TypeId} (h : AllocAt P o a mk z t) (he : execOp a'.eval o = execOp a.eval o) : AllocAt P o a' mk z t := by
  unfold AllocAt at *
  rw [he]
  exact h

theorem Steady.blk {A : World → Prop} (hA : Steady A) (g : Nat) (t : TypeId) (z : Array Value) : Steady fun w => A w ∧ Blk w g t z := fun _ _ h hb => ⟨hA _ _ h.1 hb, h.2.call hb⟩
theorem Steady.both {A B : World → Prop} (hA : Steady A) (hB : Steady B) : Steady fun w => A w ∧ B w := fun _ _ h hb => ⟨hA _ _ h.1 hb, hB _ _ h.2 hb⟩

def hOp (P : Program) (ops : Array Oper) (als : List Nat) (N : Nat) (C : World → Prop) (i : Nat) (K : Act → (World → Prop) → Prop) (a : Act) (A : World → Prop) : Prop :=
  match ops[i]? with
  | none => False
  | some o => if Region.wanted o (yielded ops a.tmps) then
      (if i ∈ als then (∃ mk z t, AllocAt P o a mk z t) ∧ ∀ mk z t, AllocAt P o a mk z t → ∀ g, N ≤ g → K (a.put o.dst (mk g)) (fun w => A w ∧ Blk w g t z)
       else ∀ w, A w → o.wp P a w (fun a' w' => ∃ A' : World → Prop, Steady A' ∧ (∀ w, A' w → C w) ∧ A' w' ∧ K a' A') noExit)
    else K (a.put o.dst undef) A

theorem hOp_mono {als : List Nat} {N i : Nat} {C C' : World → Prop} {K K' : Act → (World → Prop) → Prop} {a : Act} {A : World → Prop} (hA : Steady A) (hAC : ∀ w, A w → C w) (hC : ∀ w, C w → C' w)
    (h : ∀ a A, Steady A → (∀ w, A w → C w) → K a A → K' a A) (hh : hOp P ops als N C i K a A) : hOp P ops als N C' i K' a A := by
  unfold hOp at *
  split
  · rename_i ho; simp only [ho] at hh
  · rename_i o ho
    simp only [ho] at hh
    split
    · rename_i hw
      simp only [hw, if_true] at hh
      split
      · rename_i hi
        rw [if_pos hi] at hh
        exact ⟨hh.1, fun mk z t hm g hg => h _ _ (hA.blk _ _ _) (fun w hw => hAC w hw.1) (hh.2 mk z t hm g hg)⟩
      · rename_i hi
        rw [if_neg hi] at hh
        exact fun w hw => Oper.wp_mono (fun a' w' ⟨A', h1, h2, h3, h4⟩ => ⟨A', h1, fun w hw => hC _ (h2 w hw), h3, h _ _ h1 h2 h4⟩) (hh w hw)
    · rename_i hw
      simp only [hw] at hh
      exact h _ _ hA hAC hh

def wpH (P : Program) (md : Region.Mode) (ops : Array Oper) (als : List Nat) (N n : Nat) (L : Array Bool → Act → (World → Prop) → Prop) (C : World → Prop) : Nat → Array Bool → Act → (World → Prop) → Prop
  | 0, listed, a, A => L listed a A
  | f + 1, listed, a, A =>
    Region.ready md ops listed ≠ [] ∧ ∀ i ∈ Region.ready md ops listed, i < n ∧ hOp P ops als N C i (wpH P md ops als N n L C f (listed.setIfInBounds i true)) a A

variable {als : List Nat} {N n : Nat} {L : Array Bool → Act → (World → Prop) → Prop} {C : World → Prop}

theorem wpH_frame {C' : World → Prop} (hC : ∀ w, C' w → C w) :
    ∀ (f : Nat) (listed : Array Bool) (a : Act) (A : World → Prop), Steady A → (∀ w, A w → C' w) → wpH P md ops als N n L C' f listed a A → wpH P md ops als N n L C f listed a A
  | 0, _, _, _, _, _, h => h
  | f + 1, listed, a, A, hA, hAC, h => ⟨h.1, fun i hi => ⟨(h.2 i hi).1, hOp_mono hA hAC hC (fun a' A' h1 h2 h3 => wpH_frame hC f _ a' A' h1 h2 h3) (h.2 i hi).2⟩⟩

theorem wpH_weak (hL : ∀ listed a (A A' : World → Prop), (∀ w, A' w → A w) → L listed a A → L listed a A') :
    ∀ (f : Nat) (listed : Array Bool) (a : Act) (A A' : World → Prop), (∀ w, A' w → A w) → wpH P md ops als N n L C f listed a A → wpH P md ops als N n L C f listed a A'
  | 0, _, _, _, _, h, hh => hL _ _ _ _ h hh
  | f + 1, listed, a, A, A', h, hh => ⟨hh.1, fun i hi => ⟨(hh.2 i hi).1, by
      have h2 := (hh.2 i hi).2
      unfold hOp at *
      split
      · rename_i ho; simp only [ho] at h2
      · rename_i o ho
        simp only [ho] at h2
        split
        · rename_i hw
          simp only [hw, if_true] at h2
          split
          · rename_i hi
            rw [if_pos hi] at h2
            exact ⟨h2.1, fun mk z t hm g hg => wpH_weak hL f _ _ _ _ (fun w hw => ⟨h w hw.1, hw.2⟩) (h2.2 mk z t hm g hg)⟩
          · rename_i hi
            rw [if_neg hi] at h2
            exact fun w hw => h2 w (h w hw)
        · rename_i hw
          simp only [hw] at h2
          exact wpH_weak hL f _ _ _ _ h h2⟩⟩

theorem SQuiet.hOp {i : Nat} {o : Oper} {v : Value} {a : Act} {A : World → Prop} (hA : Steady A) (hAC : ∀ w, A w → C w) (hi : ops[i]? = some o) (hal : i ∉ als) (hy : SQuiet P ops C o v a) {K : Act → (World → Prop) → Prop}
    (h : K (a.put o.dst v) A) : hOp P ops als N C i K a A := by
  unfold B0.hOp
  simp only [hi]
  rcases hy with ⟨hwt, hv⟩ | ⟨hwt, rfl⟩
  · simp only [hwt, if_true]
    rw [if_neg hal]
    intro w hw
    have hv := hv w (hAC w hw)
    unfold sq at hv
    unfold Oper.wp
    generalize (execOp a.eval o).run P w = r at *
    cases r with
    | ok nx w' =>
      cases nx <;> simp only [Oper.upon] at hv ⊢
      case value u =>
        obtain ⟨rfl, rfl⟩ := hv
        exact ⟨A, hA, hAC, hw, h⟩
      case enter f args =>
        obtain ⟨rfl, hv⟩ := hv
        refine Calls.mono hv fun e w'' he => ?_
        obtain ⟨rfl, hb⟩ := he
        exact ⟨A, hA, hAC, hA _ _ hw hb, h⟩
    | halt x w' => cases x <;> simp only at hv
  · simp only [hwt, Bool.false_eq_true, if_false]
    exact h

/-- whatever is apart from oi comes with or without oi's value in its temporary -/
theorem hOp_put {j : Nat} {oi oj : Oper} {v : Value} {X : Act → Prop} (hj : ops[j]? = some oj) (hap : oi.apart ops oj = true)
    (hsi : ∀ cs b, oi.op ≠ .select cs b) (hsj : ∀ cs b, oj.op ≠ .select cs b) {K : Act → (World → Prop) → Prop} {a : Act} {A : World → Prop} (hA : Steady A) (hAC : ∀ w, A w → C w)
    (hX : ∀ a', X a → execOp a'.eval oi = execOp a.eval oi → Region.wanted oi (yielded ops a'.tmps) = Region.wanted oi (yielded ops a.tmps) → X a')
    (hy : X a) (h : hOp P ops als N C j K (a.put oi.dst v) A) :
    hOp P ops als N C j (fun a' A' => X a' ∧ Steady A' ∧ (∀ w, A' w → C w) ∧ K (a'.put oi.dst v) A') a A := by
  obtain ⟨h1, h2, h3⟩ := Oper.apart_spec hap
  have keep : ∀ u, X (a.put oj.dst u) := fun u => hX _ hy (execOp_put oi hsi a oj.dst u h3) (wanted_put oi a oj.dst u h3)
  have keepD : ∀ d u, X ((⟨a.tmps, d :: a.defers⟩ : Act).put oj.dst u) := fun d u => hX _ hy ((execOp_put oi hsi ⟨a.tmps, d :: a.defers⟩ oj.dst u h3).trans rfl) ((wanted_put oi ⟨a.tmps, d :: a.defers⟩ oj.dst u h3).trans rfl)
  unfold hOp at *
  simp only [hj] at *
  rw [wanted_put oj a oi.dst v h1] at h
  split
  · rename_i hw
    simp only [hw, if_true] at h
    split
    · rename_i hal
      rw [if_pos hal] at h
      obtain ⟨⟨mk, z, t, hm⟩, hh⟩ := h
      refine ⟨⟨mk, z, t, hm.of_same (execOp_put oj hsj a oi.dst v h1).symm⟩, fun mk z t hm g hg => ⟨keep _, hA.blk _ _ _, fun w hw => hAC w hw.1, ?_⟩⟩
      have := hh mk z t (hm.of_same (execOp_put oj hsj a oi.dst v h1)) g hg
      rw [← Act.put_comm a v _ h2]
      exact this
    · rename_i hal
      rw [if_neg hal] at h
      intro w hwA
      have h := h w hwA
      unfold Oper.wp at *
      rw [execOp_put oj hsj a oi.dst v h1] at h
      generalize (execOp a.eval oj).run P w = r at *
      cases r with
      | ok nx w' =>
        cases nx <;> simp only [Oper.upon] at h ⊢
        case value u =>
          obtain ⟨A', g1, g2, g3, g4⟩ := h
          exact ⟨A', g1, g2, g3, keep u, g1, g2, by rw [← Act.put_comm a v u h2]; exact g4⟩
        case skip =>
          obtain ⟨A', g1, g2, g3, g4⟩ := h
          exact ⟨A', g1, g2, g3, keep _, g1, g2, by rw [← Act.put_comm a v undef h2]; exact g4⟩
        case defer d =>
          obtain ⟨A', g1, g2, g3, g4⟩ := h
          refine ⟨A', g1, g2, g3, keepD d _, g1, g2, ?_⟩
          rw [← Act.put_comm _ v undef h2, ← Act.put_defers]
          exact g4
        case enter f args =>
          refine Calls.mono h fun e w'' he => ?_
          cases e with
          | returned u =>
            obtain ⟨A', g1, g2, g3, g4⟩ := he
            exact ⟨A', g1, g2, g3, keep u, g1, g2, by rw [← Act.put_comm a v u h2]; exact g4⟩
          | panicked c => exact he
          | outgrown => exact he
        case row row args =>
          refine Rows.mono h fun u w'' he => ?_
          obtain ⟨A', g1, g2, g3, g4⟩ := he
          exact ⟨A', g1, g2, g3, keep u, g1, g2, by rw [← Act.put_comm a v u h2]; exact g4⟩
      | halt x w' =>
        cases x <;> simp only [Oper.upon] at h ⊢
        case panic u => exact h
  · rename_i hw
    simp only [hw] at h
    exact ⟨keep _, hA, hAC, by rw [← Act.put_comm a v undef h2]; exact h⟩

section
variable (hsel : ∀ (j : Nat) (o : Oper) cs b, ops[j]? = some o → o.op ≠ .select cs b) (hs : Region.sinkB md ops n = true) (hc : Region.chainB md ops n = true) (hn : n < ops.size)
  (hdone : ∀ listed a A, L listed a A → ∀ j ∈ Region.ready md ops listed, n ≤ j)

abbrev FreeAt (md : Region.Mode) (ops : Array Oper) (listed : Array Bool) (i : Nat) (oi : Oper) : Prop :=
  ∀ j oj, ops[j]? = some oj → j ≠ i → listed.getD j true = false → (∀ e ∈ oj.after, Region.binds md e = true → e.on ≠ i) → oi.apart ops oj = true
theorem FreeAt.set {listed : Array Bool} {i j : Nat} {oi : Oper} (h : FreeAt md ops listed i oi) (hjun : listed.getD j true = false) : FreeAt md ops (listed.setIfInBounds j true) i oi := fun k ok hk hki hun hno => by
  refine h k ok hk hki ?_ hno
  by_cases hjk : j = k
  · subst hjk; exact hjun
  · rw [getD_set_ne true hjk] at hun; exact hun
theorem not_after {listed : Array Bool} {i : Nat} {oj : Oper} (hr : i ∈ Region.ready md ops listed) (hall : ∀ e ∈ oj.after, Region.binds md e = true → listed.getD e.on false = true) : ∀ e ∈ oj.after, Region.binds md e = true → e.on ≠ i := fun e he hb heq => by
  have h1 := hall e he hb
  have hun := (mem_ready.1 hr).1
  rw [heq, getD_both hun] at h1
  cases h1

include hsel hs hc hn hdone in
theorem wpH_quiet {i : Nat} {oi : Oper} {v : Value} (hi : ops[i]? = some oi) (hin : i < n) (hal : i ∉ als) :
    ∀ (f : Nat) (listed : Array Bool) (a : Act) (A : World → Prop), Steady A → (∀ w, A w → C w) → HeadInv md ops n listed → FreeAt md ops listed i oi →
      i ∈ Region.ready md ops listed → SQuiet P ops C oi v a →
      wpH P md ops als N n L C f (listed.setIfInBounds i true) (a.put oi.dst v) A → wpH P md ops als N n L C (f + 1) listed a A := by
  intro f
  induction f with
  | zero =>
    intro listed a A hA hAC inv _ hr hy H
    have hun := (mem_ready.1 hr).1
    refine ⟨fun h => (by rw [h] at hr; cases hr), fun j hj => ?_⟩
    have hjn : j < n := by
      rcases Nat.lt_or_ge j n with h | h
      · exact h
      · exact absurd hj (tail_waits hs hc hn inv _ i rfl hin hun j h)
    refine ⟨hjn, ?_⟩
    by_cases hji : j = i
    · subst hji; exact hy.hOp hA hAC hi hal H
    · have := hdone _ _ _ H j (ready_mono hj hji)
      omega
  | succ f ih =>
    intro listed a A hA hAC inv hfree hr hy H
    have hun := (mem_ready.1 hr).1
    refine ⟨fun h => (by rw [h] at hr; cases hr), fun j hj => ?_⟩
    have hjn : j < n := by
      rcases Nat.lt_or_ge j n with h | h
      · exact h
      · exact absurd hj (tail_waits hs hc hn inv _ i rfl hin hun j h)
    refine ⟨hjn, ?_⟩
    by_cases hji : j = i
    · subst hji; exact hy.hOp hA hAC hi hal H
    · have h1 := (H.2 j (ready_mono hj hji)).2
      obtain ⟨hjun, oj, hoj, hall⟩ := mem_ready.1 hj
      have h2 := hOp_put (X := SQuiet P ops C oi v) hoj (hfree j oj hoj hji hjun (not_after hr hall)) (fun cs b => hsel i oi cs b hi) (fun cs b => hsel j oj cs b hoj) hA hAC (fun a' hx he hw => hx.of_same he hw) hy h1
      refine hOp_mono hA hAC (fun _ h => h) (fun a' A' _ _ h3 => ?_) h2
      refine ih (listed.setIfInBounds j true) a' A' h3.2.1 h3.2.2.1 (inv.set hj hjn) (hfree.set hjun) (ready_mono hr (Ne.symm hji)) h3.1 ?_
      rw [Array.setIfInBounds_comm _ _ hji]
      exact h3.2.2.2

/-- all that may come before i is an allocation -/
def OnlyAls (md : Region.Mode) (ops : Array Oper) (als : List Nat) (i : Nat) (listed : Array Bool) : Prop := ∀ s : Array Bool, (∀ j, s.getD j false = true → listed.getD j false = true ∨ (j ∈ als ∧ j ≠ i)) → s.size = ops.size → (∀ j, listed.getD j false = true → s.getD j false = true) → ∀ j ∈ Region.ready md ops s, j = i ∨ (j ∈ als ∧ j ≠ i)

theorem getD_set_iff {s : Array Bool} {i j : Nat} (h : (s.setIfInBounds i true).getD j false = true) : s.getD j false = true ∨ j = i := by
  by_cases hij : i = j
  · exact .inr hij.symm
  · rw [getD_set_ne false hij] at h; exact .inl h
theorem OnlyAls.set {i j : Nat} {listed : Array Bool} (h : OnlyAls md ops als i listed) (hj : j ∈ als) (hji : j ≠ i) : OnlyAls md ops als i (listed.setIfInBounds j true) := fun s hs hz hl k hk => by
  refine h s (fun m hm => ?_) hz (fun m hm => hl m (getD_set_true hm)) k hk
  rcases hs m hm with h | h
  · rcases getD_set_iff h with h | h
    · exact .inl h
    · exact .inr ⟨h ▸ hj, h ▸ hji⟩
  · exact .inr h

include hsel hs hc hn hdone in
/-- an operation with allocations beside it is taken first: X: what is known of it in whatever state of the temporaries -/
theorem wpH_first {i : Nat} {oi : Oper} {π : Type} [Inhabited π] (mk : π → Value) (F : π → World → Prop) (X : Act → Prop) (hi : ops[i]? = some oi) (hin : i < n) (hF : ∀ p, Steady (F p))
    (hL : ∀ listed a (A A' : World → Prop), (∀ w, A' w → A w) → L listed a A → L listed a A')
    (hX : ∀ a a', X a → execOp a'.eval oi = execOp a.eval oi → Region.wanted oi (yielded ops a'.tmps) = Region.wanted oi (yielded ops a.tmps) → X a')
    (A0 : World → Prop) (hdo : ∀ (K : Act → (World → Prop) → Prop) (a : Act) (A : World → Prop), X a → Steady A → (∀ w, A w → C w) → (∀ w, A w → A0 w) → (∀ p, K (a.put oi.dst (mk p)) (fun w => A w ∧ F p w)) → hOp P ops als N C i K a A)
    (hap : ∀ j ∈ als, ∀ k ∈ als, j ≠ k → ∀ oj ok, ops[j]? = some oj → ops[k]? = some ok → oj.apart ops ok = true) :
    ∀ (f : Nat) (listed : Array Bool) (a : Act) (A : World → Prop), Steady A → (∀ w, A w → C w) → (∀ w, A w → A0 w) → HeadInv md ops n listed → FreeAt md ops listed i oi → OnlyAls md ops als i listed →
      i ∈ Region.ready md ops listed → X a → (∀ j ∈ als, j ≠ i → listed.getD j true = false → ∃ oj, ops[j]? = some oj ∧ Region.wanted oj (yielded ops a.tmps) = true ∧ ∃ m z t, AllocAt P oj a m z t) →
      (∀ p, wpH P md ops als N n L C f (listed.setIfInBounds i true) (a.put oi.dst (mk p)) (fun w => A w ∧ F p w)) → wpH P md ops als N n L C (f + 1) listed a A := by
  intro f
  induction f with
  | zero =>
    intro listed a A hA hAC hA0 inv hfree hon hr hx hals H
    have hun := (mem_ready.1 hr).1
    refine ⟨fun h => (by rw [h] at hr; cases hr), fun j hj => ?_⟩
    have hjn : j < n := by
      rcases Nat.lt_or_ge j n with h | h
      · exact h
      · exact absurd hj (tail_waits hs hc hn inv _ i rfl hin hun j h)
    refine ⟨hjn, ?_⟩
    by_cases hji : j = i
    · subst hji; exact hdo _ _ _ hx hA hAC hA0 H
    · have := hdone _ _ _ (H default) j (ready_mono hj hji)
      omega
  | succ f ih =>
    intro listed a A hA hAC hA0 inv hfree hon hr hx hals H
    have hun := (mem_ready.1 hr).1
    refine ⟨fun h => (by rw [h] at hr; cases hr), fun j hj => ?_⟩
    have hjn : j < n := by
      rcases Nat.lt_or_ge j n with h | h
      · exact h
      · exact absurd hj (tail_waits hs hc hn inv _ i rfl hin hun j h)
    refine ⟨hjn, ?_⟩
    by_cases hji : j = i
    · subst hji; exact hdo _ _ _ hx hA hAC hA0 H
    · rcases hon listed (fun _ h => .inl h) inv.size (fun _ h => h) j hj with h | ⟨hjal, _⟩
      · exact absurd h hji
      · obtain ⟨hjun, oj', hoj', hall⟩ := mem_ready.1 hj
        obtain ⟨oj, hoj, hwj, mj, zj, tj, hmj⟩ := hals j hjal hji hjun
        obtain rfl : oj = oj' := Option.some.inj (hoj.symm.trans hoj')
        obtain ⟨g1, g2, g3⟩ := Oper.apart_spec (hfree j oj hoj hji hjun (not_after hr hall))
        have hsi : ∀ cs b, oi.op ≠ .select cs b := fun cs b => hsel i oi cs b hi
        have hsj : ∀ cs b, oj.op ≠ .select cs b := fun cs b => hsel j oj cs b hoj
        unfold hOp
        simp only [hoj, hwj, if_true, hjal]
        refine ⟨⟨mj, zj, tj, hmj⟩, fun m z t hm g hg => ?_⟩
        refine ih (listed.setIfInBounds j true) _ _ (hA.blk _ _ _) (fun w hw => hAC w hw.1) (fun w hw => hA0 w hw.1) (inv.set hj hjn) (hfree.set hjun) (hon.set hjal hji) (ready_mono hr (Ne.symm hji))
          (hX a _ hx (execOp_put oi hsi a oj.dst _ g3) (wanted_put oi a oj.dst _ g3)) ?_ ?_
        · intro k hk hki hkun
          have hkj : k ≠ j := by
            rintro rfl
            have hlt : k < listed.size := by rw [inv.size]; exact (Array.getElem?_eq_some_iff.1 hoj).1
            simp [hlt] at hkun
          rw [getD_set_ne true (Ne.symm hkj)] at hkun
          obtain ⟨ok, hok, hwk, mk', z', t', hmk⟩ := hals k hk hki hkun
          obtain ⟨q1, q2, q3⟩ := Oper.apart_spec (hap j hjal k hk (Ne.symm hkj) oj ok hoj hok)
          exact ⟨ok, hok, (wanted_put ok a oj.dst _ q1).trans hwk, mk', z', t', hmk.of_same (execOp_put ok (fun cs b => hsel k ok cs b hok) a oj.dst _ q1)⟩
        · intro p
          have h1 := ((H p).2 j (ready_mono hj hji)).2
          unfold hOp at h1
          simp only [hoj] at h1
          rw [wanted_put oj a oi.dst _ g1, if_pos hwj, if_pos hjal] at h1
          have h2 := h1.2 m z t (hm.of_same (execOp_put oj hsj a oi.dst _ g1)) g hg
          rw [Act.put_comm a _ _ g2, Array.setIfInBounds_comm _ _ (Ne.symm hji)] at h2
          exact wpH_weak hL f _ _ _ _ (fun w hw => ⟨⟨hw.1.1, hw.2⟩, hw.1.2⟩) h2
end

theorem wpAny_of_H {g : Nat} {Q' : Exit → Act → World → Prop} (hN : ∀ w, C w → N ≤ w.heap.size) (hL : ∀ listed a A w, A w → L listed a A → wpAny P md ops Q' g listed a w) :
    ∀ (f : Nat) (listed : Array Bool) (a : Act) (A : World → Prop) (w : World), Steady A → (∀ w, A w → C w) → A w → wpH P md ops als N n L C f listed a A → wpAny P md ops Q' (f + g) listed a w
  | 0, listed, a, A, w, _, _, hw, h => by rw [Nat.zero_add]; exact hL _ _ _ _ hw h
  | f + 1, listed, a, A, w, hA, hAC, hw, h => by
    rw [show f + 1 + g = (f + g) + 1 by omega]
    refine ⟨fun h0 => absurd h0 h.1, fun i hi => ?_⟩
    have h2 := (h.2 i hi).2
    unfold hOp at h2
    unfold wpOp
    split at h2
    · exact h2.elim
    · rename_i o ho
      rw [ho]
      simp only
      split at h2
      · rename_i hwt
        rw [if_pos hwt]
        refine .inl ?_
        split at h2
        · obtain ⟨⟨mk, z, t, hm⟩, hh⟩ := h2
          unfold Oper.wp
          rw [hm w]
          simp only [Oper.upon]
          exact wpAny_of_H hN hL f _ _ _ _ (hA.blk _ _ _) (fun w hw => hAC w hw.1) ⟨hA _ _ hw ((Below.refl _ _).alloc (Nat.le_refl _) _), Blk.new _ _ _⟩ (hh mk z t hm w.heap.size (hN _ (hAC _ hw)))
        · have h2 := h2 w hw
          unfold Oper.wp at *
          generalize (execOp a.eval o).run P w = r at *
          cases r with
          | ok nx w' =>
            cases nx <;> simp only [Oper.upon] at h2 ⊢
            case value u => obtain ⟨A', g1, g2, g3, g4⟩ := h2; exact wpAny_of_H hN hL f _ _ _ _ g1 g2 g3 g4
            case skip => obtain ⟨A', g1, g2, g3, g4⟩ := h2; exact wpAny_of_H hN hL f _ _ _ _ g1 g2 g3 g4
            case defer d => obtain ⟨A', g1, g2, g3, g4⟩ := h2; exact wpAny_of_H hN hL f _ _ _ _ g1 g2 g3 g4
            case enter fn args =>
              refine Calls.mono h2 fun e w'' he => ?_
              cases e with
              | returned u => obtain ⟨A', g1, g2, g3, g4⟩ := he; exact wpAny_of_H hN hL f _ _ _ _ g1 g2 g3 g4
              | panicked c => exact he.elim
              | outgrown => exact (noExit_lets he).elim
            case row row args => exact Rows.mono h2 fun u w'' he => by obtain ⟨A', g1, g2, g3, g4⟩ := he; exact wpAny_of_H hN hL f _ _ _ _ g1 g2 g3 g4
          | halt x w' =>
            cases x <;> simp only [Oper.upon] at h2 ⊢
            case panic u => exact h2.elim
      · rename_i hwt
        rw [if_neg hwt]
        exact wpAny_of_H hN hL f _ _ _ _ hA hAC hw h2

def AlsOK (P : Program) (ops : Array Oper) (als : List Nat) (a : Act) : Prop := ∀ j ∈ als, ∃ oj, ops[j]? = some oj ∧ Region.wanted oj (yielded ops a.tmps) = true ∧ ∃ m z t, AllocAt P oj a m z t

/-- the walk: 0 quiet, 1 a call with allocations beside it, 2 an allocation, 3 what comes alone -/
def wpHq (P : Program) (ops : Array Oper) (als : List Nat) (N : Nat) (T : Act → World → Prop) : (World → Prop) → (World → Prop) → List (Option Oper × Nat) → Act → Prop
  | _, A, [], a => ∀ w, A w → T a w
  | _, _, (none, _) :: _, _ => False
  | C, A, (some o, 0) :: r, a => ∃ v, SQuiet P ops C o v a ∧ wpHq P ops als N T C A r (a.put o.dst v)
  | C, A, (some o, 1) :: r, a => Region.wanted o (yielded ops a.tmps) = true ∧ AlsOK P ops als a ∧ ∃ (π : Type) (_ : Inhabited π) (mk : π → Value) (F C' : π → World → Prop), (∀ p, Steady (F p)) ∧ (∀ p, Steady (C' p)) ∧ (∀ p w, C' p w → C w) ∧ (∀ p w, A w → F p w → C' p w) ∧
      (∃ f args, (∀ w, A w → (execOp a.eval o).run P w = .ok (.enter f args) w) ∧ ∀ w, A w → Calls P f args w fun e w' => ∃ p, e = .returned (mk p) ∧ Below w.heap.size w w' ∧ F p w') ∧ ∀ p, wpHq P ops als N T (C' p) (fun w => A w ∧ F p w) r (a.put o.dst (mk p))
  | C, A, (some o, 2) :: r, a => Region.wanted o (yielded ops a.tmps) = true ∧ AlsOK P ops als a ∧ ∃ m z t, AllocAt P o a m z t ∧ ∀ g, N ≤ g → wpHq P ops als N T C (fun w => A w ∧ Blk w g t z) r (a.put o.dst (m g))
  | C, A, (some o, _ + 3) :: r, a => Region.wanted o (yielded ops a.tmps) = true ∧ ∀ w, A w → o.wp P a w (fun a' w' => ∃ C' A' : World → Prop, Steady C' ∧ Steady A' ∧ (∀ w, C' w → C w) ∧ (∀ w, A' w → C' w) ∧ A' w' ∧ wpHq P ops als N T C' A' r a') noExit

def setAll (listed : Array Bool) : List Nat → Array Bool
  | [] => listed
  | j :: r => setAll (listed.setIfInBounds j true) r
theorem setAll_mem : ∀ (l : List Nat) (listed : Array Bool) (j : Nat), listed.getD j false = true → (setAll listed l).getD j false = true
  | [], _, _, h => h
  | k :: l, listed, j, h => setAll_mem l _ j (getD_set_true h)
theorem setAll_in : ∀ (l : List Nat) (listed : Array Bool) (j : Nat), j ∈ l → j < listed.size → (setAll listed l).getD j false = true
  | k :: l, listed, j, h, hj => by
    rcases List.mem_cons.1 h with rfl | h
    · exact setAll_mem l _ _ (by simp [hj])
    · exact setAll_in l _ j h (by simpa using hj)
theorem setAll_out : ∀ (l : List Nat) (listed : Array Bool) (j : Nat), j ∉ l → (setAll listed l).getD j true = listed.getD j true
  | [], _, _, _ => rfl
  | k :: l, listed, j, h => by
    rw [setAll, setAll_out l _ j (fun hm => h (List.mem_cons_of_mem _ hm)), getD_set_ne true (fun e => h (by rw [e]; exact List.mem_cons_self))]

def onlyB (md : Region.Mode) (ops : Array Oper) (als : List Nat) (k : Nat) (listed : Array Bool) : Bool :=
  (Region.ready md ops (setAll listed (als.filter (· != k)))).all (· == k)
theorem onlyB_spec {k : Nat} {listed : Array Bool} (hz : listed.size = ops.size) (h : onlyB md ops als k listed = true) : OnlyAls md ops als k listed := by
  intro s hs hzs hls j hj
  obtain ⟨hjun, oj, hoj, hall⟩ := mem_ready.1 hj
  by_cases hja : j ∈ als ∧ j ≠ k
  · exact .inr hja
  refine .inl ?_
  unfold onlyB at h
  rw [List.all_eq_true] at h
  have hm : ∀ m, m ∈ als.filter (· != k) ↔ m ∈ als ∧ m ≠ k := fun m => by simp [List.mem_filter]
  have : j ∈ Region.ready md ops (setAll listed (als.filter (· != k))) := by
    rw [mem_ready]
    refine ⟨?_, oj, hoj, fun e he hb => ?_⟩
    · rw [setAll_out _ _ _ (by rw [hm]; exact hja)]
      have hlt : j < listed.size := by rw [hz]; exact (Array.getElem?_eq_some_iff.1 hoj).1
      by_cases hl : listed.getD j false = true
      · have h1 := hls j hl
        rw [getD_both hjun] at h1
        cases h1
      · exact getD_in hlt (by simpa using hl)
    · have h1 := hall e he hb
      rcases hs _ h1 with h2 | h2
      · exact setAll_mem _ _ _ h2
      · refine setAll_in _ _ _ ((hm _).2 h2) ?_
        rw [hz, ← hzs]
        rcases Nat.lt_or_ge e.on s.size with h3 | h3
        · exact h3
        · simp [Array.getElem?_eq_none h3] at h1
  have h2 := h j this
  simpa using h2

def ordH (md : Region.Mode) (ops : Array Oper) (als : List Nat) (g n : Nat) : List (Nat × Nat) → Array Bool → Bool
  | [], listed => Region.seqB md ops g n listed
  | (k, 0) :: r, listed => decide (k < n) && (Region.ready md ops listed).contains k && Region.free md ops listed k && !als.contains k && ordH md ops als g n r (listed.setIfInBounds k true)
  | (k, 1) :: r, listed => decide (k < n) && (Region.ready md ops listed).contains k && Region.free md ops listed k && !als.contains k && onlyB md ops als k listed && ordH md ops als g n r (listed.setIfInBounds k true)
  | (k, 2) :: r, listed => decide (k < n) && (Region.ready md ops listed).contains k && Region.free md ops listed k && als.contains k && onlyB md ops als k listed && ordH md ops als g n r (listed.setIfInBounds k true)
  | (k, _ + 3) :: r, listed => decide (k < n) && decide (Region.ready md ops listed = [k]) && !als.contains k && ordH md ops als g n r (listed.setIfInBounds k true)

def apB (ops : Array Oper) (als : List Nat) : Bool := als.all fun j => als.all fun k => j == k || match ops[j]?, ops[k]? with | some oj, some ok => oj.apart ops ok | _, _ => true

theorem wpH_of_q {n g : Nat} {T : Act → World → Prop} (hsel : Region.noSelect ops = true) (hs : Region.sinkB md ops n = true) (hc : Region.chainB md ops n = true) (hn : n < ops.size) (hap : apB ops als = true) :
    ∀ (ord : List (Nat × Nat)) (C A : World → Prop) (listed : Array Bool) (a : Act), Steady C → Steady A → (∀ w, A w → C w) → HeadInv md ops n listed → ordH md ops als g n ord listed = true → wpHq P ops als N T C A (ord.map fun p => (ops[p.1]?, p.2)) a →
      wpH P md ops als N n (fun listed' a' A' => Region.seqB md ops g n listed' = true ∧ ∀ w', A' w' → T a' w') C ord.length listed a A := by
  have hsel' := Region.noSelect_spec hsel
  have hdone : ∀ listed' a' (A' : World → Prop), (Region.seqB md ops g n listed' = true ∧ ∀ w', A' w' → T a' w') → ∀ j ∈ Region.ready md ops listed', n ≤ j := fun listed' a' A' hL => seqB_ready hL.1
  have hL : ∀ listed a (A A' : World → Prop), (∀ w, A' w → A w) → (Region.seqB md ops g n listed = true ∧ ∀ w', A w' → T a w') → (Region.seqB md ops g n listed = true ∧ ∀ w', A' w' → T a w') := fun _ _ _ _ h hh => ⟨hh.1, fun w hw => hh.2 w (h w hw)⟩
  have hap' : ∀ j ∈ als, ∀ k ∈ als, j ≠ k → ∀ oj ok, ops[j]? = some oj → ops[k]? = some ok → oj.apart ops ok = true := by
    intro j hj k hk hjk oj ok hoj hok
    unfold apB at hap
    rw [List.all_eq_true] at hap
    have h1 := hap j hj
    rw [List.all_eq_true] at h1
    have h2 := h1 k hk
    simpa [hjk, hoj, hok] using h2
  intro ord
  induction ord with
  | nil => intro C A listed a _ _ _ _ hB h; exact ⟨by simpa [ordH] using hB, h⟩
  | cons kb r ih =>
    obtain ⟨k, b⟩ := kb
    intro C A listed a hC hA hAC inv hB h
    match b, hB, h with
    | 0, hB, h =>
      simp only [ordH, Bool.and_eq_true, decide_eq_true_eq, Bool.not_eq_true'] at hB
      obtain ⟨⟨⟨⟨hkn, hr⟩, hf⟩, hal⟩, hB'⟩ := hB
      have hr' : k ∈ Region.ready md ops listed := by simpa using hr
      obtain ⟨_, o, h0, _⟩ := mem_ready.1 hr'
      simp only [List.map_cons, h0, wpHq] at h
      obtain ⟨v, hy, hK⟩ := h
      exact wpH_quiet hsel' hs hc hn hdone h0 hkn (by simpa using hal) r.length listed a A hA hAC inv (Region.free_spec h0 hf) hr' hy (ih C A _ _ hC hA hAC (inv.set hr' hkn) hB' hK)
    | 1, hB, h =>
      simp only [ordH, Bool.and_eq_true, decide_eq_true_eq, Bool.not_eq_true'] at hB
      obtain ⟨⟨⟨⟨⟨hkn, hr⟩, hf⟩, hal⟩, hon⟩, hB'⟩ := hB
      have hal' : k ∉ als := by simpa using hal
      have hr' : k ∈ Region.ready md ops listed := by simpa using hr
      obtain ⟨_, o, h0, _⟩ := mem_ready.1 hr'
      simp only [List.map_cons, h0, wpHq] at h
      obtain ⟨hwt, hals, π, hinh, mk, F, C', hF, hC', hle, hFC, ⟨f, args, hv, hcall⟩, hK⟩ := h
      refine wpH_first (π := π) hsel' hs hc hn hdone mk F (fun a' => Region.wanted o (yielded ops a'.tmps) = true ∧ ∀ w, A w → (execOp a'.eval o).run P w = .ok (.enter f args) w) h0 hkn hF hL (fun a1 a2 hx he hw => ⟨by rw [hw]; exact hx.1, by rw [he]; exact hx.2⟩) A ?_ hap'
        r.length listed a A hA hAC (fun _ h => h) inv (Region.free_spec h0 hf) (onlyB_spec inv.size hon) hr' ⟨hwt, hv⟩ (fun j hj _ _ => hals j hj)
        fun p => wpH_frame (hle p) _ _ _ _ (hA.both (hF p)) (fun w hw => hFC p w hw.1 hw.2) (ih (C' p) _ _ _ (hC' p) (hA.both (hF p)) (fun w hw => hFC p w hw.1 hw.2) (inv.set hr' hkn) hB' (hK p))
      intro K a1 A1 hx hA1 hA1C hA10 hK1
      unfold hOp
      simp only [h0, hx.1, if_true]
      rw [if_neg hal']
      intro w hw
      unfold Oper.wp
      rw [hx.2 w (hA10 w hw)]
      simp only [Oper.upon]
      refine (hcall w (hA10 w hw)).mono fun e w' he => ?_
      obtain ⟨p, rfl, hb, hp⟩ := he
      exact ⟨fun w => A1 w ∧ F p w, hA1.both (hF p), fun w hw => hA1C w hw.1, ⟨hA1 _ _ hw hb, hp⟩, hK1 p⟩
    | 2, hB, h =>
      simp only [ordH, Bool.and_eq_true, decide_eq_true_eq] at hB
      obtain ⟨⟨⟨⟨⟨hkn, hr⟩, hf⟩, hal⟩, hon⟩, hB'⟩ := hB
      have hal' : k ∈ als := by simpa using hal
      have hr' : k ∈ Region.ready md ops listed := by simpa using hr
      obtain ⟨_, o, h0, _⟩ := mem_ready.1 hr'
      simp only [List.map_cons, h0, wpHq] at h
      obtain ⟨hwt, hals, m, z, t, hm, hK⟩ := h
      letI : Inhabited (Subtype fun g : Nat => N ≤ g) := ⟨⟨N, Nat.le_refl _⟩⟩
      refine wpH_first (π := Subtype fun g : Nat => N ≤ g) hsel' hs hc hn hdone (fun p => m p.1) (fun p w => Blk w p.1 t z) (fun a' => Region.wanted o (yielded ops a'.tmps) = true ∧ AllocAt P o a' m z t) h0 hkn (fun p _ _ h hb => h.call hb) hL (fun a1 a2 hx he hw => ⟨by rw [hw]; exact hx.1, hx.2.of_same he⟩) A ?_ hap'
        r.length listed a A hA hAC (fun _ h => h) inv (Region.free_spec h0 hf) (onlyB_spec inv.size hon) hr' ⟨hwt, hm⟩ (fun j hj _ _ => hals j hj)
        fun p => ih C _ _ _ hC (hA.blk _ _ _) (fun w hw => hAC w hw.1) (inv.set hr' hkn) hB' (hK p.1 p.2)
      intro K a1 A1 hx hA1 hA1C hA10 hK1
      unfold hOp
      simp only [h0, hx.1, if_true]
      rw [if_pos hal']
      refine ⟨⟨m, z, t, hx.2⟩, fun m' z' t' hm' g hg => ?_⟩
      obtain ⟨rfl, rfl, rfl⟩ := hx.2.unique hm'
      exact hK1 ⟨g, hg⟩
    | c + 3, hB, h =>
      simp only [ordH, Bool.and_eq_true, decide_eq_true_eq, Bool.not_eq_true'] at hB
      obtain ⟨⟨⟨hkn, hr⟩, hal⟩, hB'⟩ := hB
      have hal' : k ∉ als := by simpa using hal
      have hr' : k ∈ Region.ready md ops listed := by rw [hr]; simp
      obtain ⟨_, o, h0, _⟩ := mem_ready.1 hr'
      have hq : Region.wanted o (yielded ops a.tmps) = true ∧ ∀ w, A w → o.wp P a w (fun a' w' => ∃ C' A' : World → Prop, Steady C' ∧ Steady A' ∧ (∀ w, C' w → C w) ∧ (∀ w, A' w → C' w) ∧ A' w' ∧ wpHq P ops als N T C' A' (r.map fun p => (ops[p.1]?, p.2)) a') noExit := by
        rw [List.map_cons, h0] at h
        exact h
      refine ⟨fun h => (by rw [h] at hr'; cases hr'), fun j hj => ?_⟩
      rw [hr] at hj
      have hjk : j = k := by simpa using hj
      subst hjk
      refine ⟨hkn, ?_⟩
      unfold hOp
      simp only [h0, hq.1, if_true]
      rw [if_neg hal']
      intro w hw
      refine Oper.wp_mono (fun a' w' h' => ?_) (hq.2 w hw)
      obtain ⟨C', A', g1, g2, g3, g4, g5, g6⟩ := h'
      exact ⟨A', g2, fun w hw => g3 _ (g4 w hw), g5, wpH_frame g3 _ _ _ _ g2 g4 (ih C' A' _ _ g1 g2 g4 (inv.set hr' hkn) hB' g6)⟩

def ordHB (md : Region.Mode) (ops : Array Oper) (als : List Nat) (n : Nat) (ord : List (Nat × Nat)) : Bool :=
  Region.noSelect ops && decide (n < ops.size) && Region.sinkB md ops n && Region.chainB md ops n && decide (ord.length = n) && apB ops als && ordH md ops als (ops.size - n) n ord (Array.replicate ops.size false)

theorem wp_region_hk {id : Nat} {Q : Exit → Act → World → Prop} {a : Act} {w : World} {l : List Oper} (n : Nat) (ord : List (Nat × Nat)) (als : List Nat) (N : Nat) (C A : World → Prop) (hm : P.follows .mixedOrders = true) (hB : ordHB .any l.toArray als n ord = true) (hS : Steady C) (hSA : Steady A) (hAC : ∀ w, A w → C w) (hN : ∀ w, C w → N ≤ w.heap.size) (hC : A w.drew)
    (h : wpHq P l.toArray als N (fun a' w' => wpList P l.toArray Q (l.drop n) a' w') C A (ord.map fun p => (l.toArray[p.1]?, p.2)) a) : (Code.region id l.toArray true).wp P Q a w := by
  simp only [ordHB, Bool.and_eq_true, decide_eq_true_eq] at hB
  obtain ⟨⟨⟨⟨⟨⟨hsel, hn⟩, hs⟩, hc⟩, hlen⟩, hap⟩, hord⟩ := hB
  have hdl : (l.drop n).length = l.toArray.size - n := by simp
  have inv0 : HeadInv .any l.toArray n (Array.replicate l.toArray.size false) :=
    ⟨by simp, fun j oj _ hl => (by rw [getD_replicate_false] at hl; cases hl), fun t _ ht => getD_in (by simpa using ht) (getD_replicate_false _ _)⟩
  have H := wpH_of_q (md := .any) (g := l.toArray.size - n) hsel hs hc hn hap ord C A _ a hS hSA hAC inv0 hord h
  refine wp_region_any hm ?_
  have := wpAny_of_H (Q' := Q) (g := l.toArray.size - n) hN (fun listed a' A' w' hw' hL => by
    have := wpAny_of_seq (md := .any) (Q' := Q) (l.drop n) n listed a' w' (fun j => by simp [List.getElem?_drop]) (by rw [hdl]; exact hL.1) (hL.2 w' hw')
    rwa [hdl] at this) _ _ _ _ w.drew hSA hAC hC H
  rw [hlen, show n + (l.toArray.size - n) = l.toArray.size by omega] at this
  exact this

theorem wp_region_h {id : Nat} {Q : Exit → Act → World → Prop} {a : Act} {w : World} {l : List Oper} (n : Nat) (ord : List (Nat × Nat)) (als : List Nat) (N : Nat) (C : World → Prop) (hm : P.follows .mixedOrders = true) (hB : ordHB .any l.toArray als n ord = true) (hS : Steady C) (hN : ∀ w, C w → N ≤ w.heap.size) (hC : C w.drew)
    (h : wpHq P l.toArray als N (fun a' w' => wpList P l.toArray Q (l.drop n) a' w') C C (ord.map fun p => (l.toArray[p.1]?, p.2)) a) : (Code.region id l.toArray true).wp P Q a w :=
  wp_region_hk n ord als N C C hm hB hS hS (fun _ h => h) hN hC h

section
variable {T : Act → World → Prop} {rest : List (Option Oper × Nat)} {o : Oper} {a : Act} {v : Value} {A : World → Prop}
theorem h_val (hw : Region.wanted o (yielded ops a.tmps) = true) (hv : ∀ W, C W → (execOp a.eval o).run P W = .ok (.value v) W) (h : wpHq P ops als N T C A rest (a.put o.dst v)) : wpHq P ops als N T C A ((some o, 0) :: rest) a :=
  ⟨v, .inl ⟨hw, fun W hC => by unfold sq; rw [hv W hC]; exact ⟨rfl, rfl⟩⟩, h⟩
theorem h_off (hw : Region.wanted o (yielded ops a.tmps) = false) (h : wpHq P ops als N T C A rest (a.put o.dst undef)) : wpHq P ops als N T C A ((some o, 0) :: rest) a := ⟨undef, .inr ⟨hw, rfl⟩, h⟩
theorem h_call {f : FuncId} {args : Array Value} (hw : Region.wanted o (yielded ops a.tmps) = true) (hv : ∀ W, C W → (execOp a.eval o).run P W = .ok (.enter f args) W) (hc : ∀ W, C W → Calls P f args W fun e w' => e = .returned v ∧ Below W.heap.size W w') (h : wpHq P ops als N T C A rest (a.put o.dst v)) : wpHq P ops als N T C A ((some o, 0) :: rest) a :=
  ⟨v, .inl ⟨hw, fun W hC => by unfold sq; rw [hv W hC]; exact ⟨rfl, hc W hC⟩⟩, h⟩
/-- a call that hands back something new, with allocations beside it or none -/
theorem h_loud {f : FuncId} {args : Array Value} (π : Type) [hi : Inhabited π] (mk : π → Value) (F C' : π → World → Prop) (hF : ∀ p, Steady (F p)) (hC' : ∀ p, Steady (C' p)) (hle : ∀ p w, C' p w → C w) (hFC : ∀ p w, A w → F p w → C' p w) (hw : Region.wanted o (yielded ops a.tmps) = true) (hals : AlsOK P ops als a)
    (hv : ∀ W, A W → (execOp a.eval o).run P W = .ok (.enter f args) W) (hc : ∀ W, A W → Calls P f args W fun e w' => ∃ p, e = .returned (mk p) ∧ Below W.heap.size W w' ∧ F p w') (h : ∀ p, wpHq P ops als N T (C' p) (fun w => A w ∧ F p w) rest (a.put o.dst (mk p))) : wpHq P ops als N T C A ((some o, 1) :: rest) a :=
  ⟨hw, hals, π, hi, mk, F, C', hF, hC', hle, hFC, ⟨f, args, hv, hc⟩, h⟩
theorem h_alloc {m : Nat → Value} {z : Array Value} {t : TypeId} (hw : Region.wanted o (yielded ops a.tmps) = true) (hals : AlsOK P ops als a) (hm : AllocAt P o a m z t) (h : ∀ g, N ≤ g → wpHq P ops als N T C (fun w => A w ∧ Blk w g t z) rest (a.put o.dst (m g))) : wpHq P ops als N T C A ((some o, 2) :: rest) a :=
  ⟨hw, hals, m, z, t, hm, h⟩
/-- what comes alone: whatever it leaves -/
theorem h_alone (hw : Region.wanted o (yielded ops a.tmps) = true) (h : ∀ w, A w → o.wp P a w (fun a' w' => ∃ C' A' : World → Prop, Steady C' ∧ Steady A' ∧ (∀ w, C' w → C w) ∧ (∀ w, A' w → C' w) ∧ A' w' ∧ wpHq P ops als N T C' A' rest a') noExit) : wpHq P ops als N T C A ((some o, 3) :: rest) a := ⟨hw, h⟩
/-- a call that comes alone and may change what it is handed -/
theorem h_deed {f : FuncId} {args : Array Value} {R : World → Ending → World → Prop} (hw : Region.wanted o (yielded ops a.tmps) = true) (hv : ∀ W, A W → (execOp a.eval o).run P W = .ok (.enter f args) W) (hc : ∀ W, A W → Calls P f args W (R W))
    (h : ∀ W, A W → ∀ e w', R W e w' → ∃ u, e = .returned u ∧ ∃ C' A' : World → Prop, Steady C' ∧ Steady A' ∧ (∀ w, C' w → C w) ∧ (∀ w, A' w → C' w) ∧ A' w' ∧ wpHq P ops als N T C' A' rest (a.put o.dst u)) : wpHq P ops als N T C A ((some o, 3) :: rest) a := by
  refine ⟨hw, fun W hC => ?_⟩
  unfold Oper.wp
  rw [hv W hC]
  simp only [Oper.upon]
  refine (hc W hC).mono fun e w' he => ?_
  obtain ⟨u, rfl, hh⟩ := h W hC e w' he
  exact hh
theorem h_store (A' : World → Prop) (F : World → World) (hw : Region.wanted o (yielded ops a.tmps) = true) (hv : ∀ W, A W → (execOp a.eval o).run P W = .ok .skip (F W)) (hC : Steady C) (hS : Steady A') (hle : ∀ w, A' w → C w) (hF : ∀ W, A W → A' (F W)) (h : wpHq P ops als N T C A' rest (a.put o.dst undef)) : wpHq P ops als N T C A ((some o, 3) :: rest) a := by
  refine ⟨hw, fun W hW => ?_⟩
  unfold Oper.wp
  rw [hv W hW]
  simp only [Oper.upon]
  exact ⟨C, A', hC, hS, fun _ h => h, hle, hF W hW, h⟩
theorem h_end (h : ∀ w, A w → T a w) : wpHq P ops als N T C A [] a := h
end
end
end Go.Proofs.Ytapiffkeclnbbaa.B0
