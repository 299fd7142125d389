import Derived.Test.YtapiffkeclnbbaaProg
import Derived.Below
import Derived.Deep.Draws
import Derived.Deep.AppendLies
import Derived.Maps.AppendAt
import Derived.OwnWalk
import Derived.Laws.MakeOwn
import Derived.Laws.OwnMore
import Derived.Deep.OwnRows
import Derived.Tactics
import Derived.Laws.Slices
import Derived.WalkKit
import Derived.KernelRfl
import Derived.RowKit3
import Derived.Deep.LoopGhost
import Derived.Deep.QuietTactic
import Derived.BigQuiet
import Derived.WideLaws
import Derived.Deep.DeepCutAuto
import Derived.Deep.CutBlock
import Derived.Deep.RegionHeld3
import Derived.Deep.RegionWith
import Derived.Deep.RegionLaw
import Derived.Laws.Rows
import Derived.ArgAppend
import Derived.OrdersHeld
import Derived.Laws.BitsLemmas
import Derived.Laws.StructEq
import Derived.RowKit
import Derived.Lib.Hide
import Derived.Lib.SliceRun
import Derived.StillTail
import Derived.Test.YtapiffkeclnbbaaB0
import Derived.Test.YtapiffkeclnbbaaB1
import Derived.Test.YtapiffkeclnbbaaB2
import Derived.Test.YtapiffkeclnbbaaB3
import Derived.Test.YtapiffkeclnbbaaB4
import Derived.Test.YtapiffkeclnbbaaB5
import Derived.Test.YtapiffkeclnbbaaB6
import Derived.Test.YtapiffkeclnbbaaB7
import Derived.Test.YtapiffkeclnbbaaB8
import Derived.Test.YtapiffkeclnbbaaA1
import Derived.Test.YtapiffkeclnbbaaA2
import Derived.Test.YtapiffkeclnbbaaA3
import Derived.Test.YtapiffkeclnbbaaA4
import Derived.Test.YtapiffkeclnbbaaA5
import Derived.Test.YtapiffkeclnbbaaA6
import Derived.Test.YtapiffkeclnbbaaQ1
import Derived.Test.YtapiffkeclnbbaaQ2
import Derived.Test.YtapiffkeclnbbaaQ3
import Derived.Test.YtapiffkeclnbbaaQ4
import Derived.Test.YtapiffkeclnbbaaQ5
import Derived.Test.YtapiffkeclnbbaaQ6
import Derived.Test.YtapiffkeclnbbaaQ7
import Derived.Test.YtapiffkeclnbbaaQ8
import Derived.Test.YtapiffkeclnbbaaQ9
import Derived.Test.YtapiffkeclnbbaaQ10
import Derived.Test.YtapiffkeclnbbaaQ11
import Derived.Test.YtapiffkeclnbbaaQ12
import Derived.Test.YtapiffkeclnbbaaQ13
import Derived.Test.YtapiffkeclnbbaaQ14
import Derived.Test.YtapiffkeclnbbaaQ15
import Derived.Test.YtapiffkeclnbbaaQ16
/-! kedgelaw14.QueueOnce. -/
set_option linter.unusedVariables false
set_option linter.unusedSimpArgs false
namespace Go.Proofs.Ytapiffkeclnbbaa.Q
open Go.RowKit Go.Proofs.Ytapiffkeclnbbaa.B0 Go.Proofs.Ytapiffkeclnbbaa.A2
attribute [local irreducible] wpHq
attribute [local go_sem high] eqA34 eqA36 eqA38
theorem firE_hit {xs : List EntryV} {e : EntryV} {a : AddrV} (h : conP e.x.p a = true) (he : e ∈ xs) : firE xs a ≠ -1 := by
  intro hf
  have := firE_neg.1 (by rw [hf]; rfl) e he
  rw [h] at this
  cases this
theorem firE_last {xs : List EntryV} {e : EntryV} {a : AddrV} (h : conP e.x.p a = true) (hf : firE xs a = -1) : firE (xs ++ [e]) a = xs.length := by
  have h0 := firE_neg.1 (by rw [hf]; rfl)
  have hn : xs.findIdx? (fun e => conP e.x.p a) = none := by
    rw [List.findIdx?_eq_none_iff]
    simpa using h0
  unfold firE
  rw [List.findIdx?_append, hn]
  simp [List.findIdx?_cons, h]
theorem saneQ_snoc {xs : List EntryV} {bd : Int} {a : AddrV} {x : RouteV} (h : saneQ xs bd = true) (hf : firE xs a = -1) (hl : (xs.length : Int) ≠ bd) (hfit : fitE a x = true) : saneQ (xs ++ [⟨a, x, false⟩]) bd = true := by
  obtain ⟨h0, h1, h2, h3⟩ := saneQ_bd h
  rw [saneQ_of h0 h1 (by simp; omega), allE_iff]
  rw [allE_iff] at h3
  intro i hi e he
  by_cases hix : i < xs.length
  · rw [List.getElem?_append_left hix] at he
    refine okE_less (h3 i hix e he) (fun y hy => ?_)
    rwa [List.take_append_of_le_length (by omega)] at hy
  · have hil : i = xs.length := by simp at hi; omega
    subst hil
    simp at he
    subst he
    simp [okE, hfit, hf]
theorem queue_Offer_any (v : Value) (xs : List EntryV) (bd : Int) (a : AddrV) (x : RouteV) (w : World) (hq : IsQ w v xs bd) (hlen : xs.length ≤ 1024) (hs : saneQ xs bd = true) :
    Calls Try.prog 22 #[v, .agg #[.int .u64 a.h, .int .u64 a.l, .bool a.v], .agg #[.int .u64 x.p.a.h, .int .u64 x.p.a.l, .bool x.p.a.v, .int .i64 x.p.n, .int .i64 x.hop]] w fun e w' => (∃ A' n' cap' bd' c, e = .returned (.tuple #[.agg #[.slice A' n' cap', .int .i64 bd'], .int .i64 c]) ∧ (firE xs a ≠ -1 → c = 1)) ∧ Kept w w' := by
  by_cases hf : firE xs a = -1
  · by_cases hl : (xs.length : Int) = bd
    · refine (queue_Offer_full v xs bd a x w hq hlen hs hf hl).mono ?_
      rintro e w' ⟨⟨v', rfl, A', cap', rfl, _⟩, hk⟩
      exact ⟨⟨_, _, _, _, _, rfl, fun h => absurd hf h⟩, hk⟩
    · cases hfit : fitE a x with
      | false =>
        refine (queue_Offer_unfit v xs bd a x w hq hlen hs hf hl hfit).mono ?_
        rintro e w' ⟨⟨v', rfl, A', cap', rfl, _⟩, hk⟩
        exact ⟨⟨_, _, _, _, _, rfl, fun h => absurd hf h⟩, hk⟩
      | true =>
        refine (queue_Offer_ok v xs bd a x w hq hlen hs hf hl hfit).mono ?_
        rintro e w' ⟨⟨v', rfl, A', cap', rfl, _⟩, hk⟩
        exact ⟨⟨_, _, _, _, _, rfl, fun h => absurd hf h⟩, hk⟩
  · refine (queue_Offer_dup v xs bd a x w hq hlen hs hf).mono ?_
    rintro e w' ⟨⟨v', rfl, A', cap', rfl, _⟩, hk⟩
    exact ⟨⟨_, _, _, _, _, rfl, fun _ => rfl⟩, hk⟩
end Go.Proofs.Ytapiffkeclnbbaa.Q
