import Derived.Test.YtapiffkeclnbbaaProg
import Derived.Below
import Derived.Deep.Draws
import Derived.Deep.AppendLies
import Derived.Maps.AppendAt
import Derived.OwnWalk
import Derived.Laws.MakeOwn
import Derived.Laws.OwnMore
import Derived.Deep.OwnRows
import Derived.Tactics
import Derived.Laws.Slices
import Derived.WalkKit
import Derived.KernelRfl
import Derived.RowKit3
import Derived.Deep.LoopGhost
import Derived.Deep.QuietTactic
import Derived.BigQuiet
import Derived.WideLaws
import Derived.Deep.DeepCutAuto
import Derived.Deep.CutBlock
import Derived.Deep.RegionHeld3
import Derived.Deep.RegionWith
import Derived.Deep.RegionLaw
import Derived.Laws.Rows
import Derived.ArgAppend
import Derived.OrdersHeld
import Derived.Laws.BitsLemmas
import Derived.Laws.StructEq
import Derived.RowKit
import Derived.Lib.Hide
import Derived.Lib.SliceRun
import Derived.StillTail
import Derived.Test.YtapiffkeclnbbaaB0
import Derived.Test.YtapiffkeclnbbaaB1
import Derived.Test.YtapiffkeclnbbaaB2
import Derived.Test.YtapiffkeclnbbaaB3
import Derived.Test.YtapiffkeclnbbaaB4
import Derived.Test.YtapiffkeclnbbaaB5
import Derived.Test.YtapiffkeclnbbaaB6
import Derived.Test.YtapiffkeclnbbaaB7
import Derived.Test.YtapiffkeclnbbaaB8
import Derived.Test.YtapiffkeclnbbaaA1
import Derived.Test.YtapiffkeclnbbaaA2
import Derived.Test.YtapiffkeclnbbaaA3
import Derived.Test.YtapiffkeclnbbaaA4
import Derived.Test.YtapiffkeclnbbaaA5
import Derived.Test.YtapiffkeclnbbaaA6
import Derived.Test.YtapiffkeclnbbaaQ1
import Derived.Test.YtapiffkeclnbbaaQ2
import Derived.Test.YtapiffkeclnbbaaQ3
import Derived.Test.YtapiffkeclnbbaaQ4
import Derived.Test.YtapiffkeclnbbaaQ5
import Derived.Test.YtapiffkeclnbbaaQ6
import Derived.Test.YtapiffkeclnbbaaQ7
import Derived.Test.YtapiffkeclnbbaaQ8
import Derived.Test.YtapiffkeclnbbaaQ9
import Derived.Test.YtapiffkeclnbbaaQ10
import Derived.Test.YtapiffkeclnbbaaQ11
import Derived.Test.YtapiffkeclnbbaaQ12
import Derived.Test.YtapiffkeclnbbaaQ13
/-! kedgelaw14.QueuePicks. -/
set_option linter.unusedVariables false
set_option linter.unusedSimpArgs false
namespace Go.Proofs.Ytapiffkeclnbbaa.Q
open Go.RowKit Go.Proofs.Ytapiffkeclnbbaa.B0 Go.Proofs.Ytapiffkeclnbbaa.A2
attribute [local go_sem high] eqA34 eqA36 eqA38
theorem allE_iff {xs : List EntryV} {k : Nat} : allE xs k = true ↔ ∀ i, i < k → ∀ e, xs[i]? = some e → okE xs i e = true := by
  unfold allE
  rw [List.all_eq_true]
  constructor
  · intro h i hi e he
    have := h i (List.mem_range.2 hi)
    simpa [he] using this
  · intro h i hi
    have hi := List.mem_range.1 hi
    cases he : xs[i]? with
    | none => rfl
    | some e => simpa [he] using h i hi e he
theorem firE_neg {xs : List EntryV} {a : AddrV} : (firE xs a == -1) = true ↔ ∀ e ∈ xs, conP e.x.p a = false := by
  unfold firE
  cases h : xs.findIdx? (fun e => conP e.x.p a) with
  | none =>
    rw [List.findIdx?_eq_none_iff] at h
    simpa using h
  | some i =>
    have h2 := List.findIdx?_eq_some_iff_getElem.1 h
    obtain ⟨hi, hc, _⟩ := h2
    constructor
    · intro h3
      simp only [beq_iff_eq] at h3
      omega
    · intro h3
      have := h3 _ (List.getElem_mem hi)
      rw [this] at hc
      cases hc
theorem okE_less {xs ys : List EntryV} {i j : Nat} {e : EntryV} (h : okE xs i e = true) (hs : ∀ y ∈ ys.take j, y ∈ xs.take i) : okE ys j e = true := by
  simp only [okE, Bool.and_eq_true] at h ⊢
  refine ⟨h.1, h.2.1, ?_⟩
  rw [firE_neg] at *
  exact fun y hy => h.2.2 y (hs y hy)
theorem saneQ_drop {xs : List EntryV} {bd : Int} (h : saneQ xs bd = true) (k : Nat) : saneQ (xs.drop k) bd = true := by
  obtain ⟨h0, h1, h2, h3⟩ := saneQ_bd h
  rw [saneQ_of h0 h1 (by simp; omega), allE_iff]
  rw [allE_iff] at h3
  intro i hi e he
  rw [List.getElem?_drop] at he
  have hi' : k + i < xs.length := by simp at hi; omega
  refine okE_less (h3 (k + i) hi' e he) (fun y hy => ?_)
  rw [List.take_drop] at hy
  exact List.mem_of_mem_drop hy
theorem saneQ_take {xs : List EntryV} {bd : Int} (h : saneQ xs bd = true) (k : Nat) : saneQ (xs.take k) bd = true := by
  obtain ⟨h0, h1, h2, h3⟩ := saneQ_bd h
  rw [saneQ_of h0 h1 (by simp; omega), allE_iff]
  rw [allE_iff] at h3
  intro i hi e he
  have hi' : i < xs.length ∧ i < k := by simp at hi; omega
  rw [List.getElem?_take, if_pos hi'.2] at he
  refine okE_less (h3 i hi'.1 e he) (fun y hy => ?_)
  rw [List.take_take, Nat.min_eq_left (by omega)] at hy
  exact hy
theorem fit_zero : fitE ⟨0, 0, false⟩ ⟨⟨⟨0, 0, false⟩, 0⟩, 0⟩ = true := by kernel_rfl
theorem queue_Pick_none (v : Value) (xs : List EntryV) (bd n : Int) (w : World) (hq : IsQ w v xs bd) (hlen : xs.length ≤ 1024) (hs : saneQ xs bd = true) (h : n < 0 ∨ (xs.length : Int) ≤ n) :
    Calls Try.prog 26 #[v, .int .i64 n] w fun e w' => (∃ v', e = .returned (.tuple #[v', vE ⟨⟨0, 0, false⟩, ⟨⟨⟨0, 0, false⟩, 0⟩, 0⟩, false⟩, .bool false]) ∧ IsQ w' v' xs bd) ∧ Kept w w' := by
  by_cases hn : n < 0
  · exact queue_Pick_low v xs bd n w hq hlen hs hn
  · exact queue_Pick_high v xs bd n w hq hlen hs (by omega) (by omega)
set_option maxHeartbeats 1000000 in
set_option maxRecDepth 100000 in
theorem picks_long (A : Option Addr) (cap : Nat) (xs : List EntryV) (bd n : Int) (w : World) (hr : Rd w w.heap.size 9 encE A xs) (hc : xs.length ≤ cap) (back : Bool) (hl : 60 < xs.length) :
    Calls Try.prog 4 #[.agg #[.slice A xs.length cap, .int .i64 bd], .bool back, .int .i64 n] w fun e w' => e = .returned (.bool true) ∧ Kept w w' := by
  have hu := Try.underlying26
  have hu2 := Try.underlying34
  have hu3 := Try.underlying38
  have hu4 := Try.underlying48
  have hu5 := Try.underlying51
  have hu6 := Try.underlying30
  have d0 : decide ((60 : Int) < (xs.length : Int)) = true := decide_eq_true (by omega)
  go_enter Try.func4, Try.ntmps4
  go_wp2_with fail
  refine (queue_awake _).mono ?_
  rintro e w1 ⟨rfl, hb1⟩
  have B0 := (Blk.new w 30 #[.slice A xs.length cap, .int .i64 bd]).call hb1.out
  have hK := ((Kept.refl w).alloc (.cells #[.slice A xs.length cap, .int .i64 bd] 30)).call hb1.out
  clear hb1
  obtain ⟨c0, f0⟩ := B0.facts
  go_wp2_with fail
  go_ret
  exact ⟨rfl, hK⟩
set_option maxHeartbeats 1000000 in
set_option maxRecDepth 100000 in
theorem picks_insane (A : Option Addr) (cap : Nat) (xs : List EntryV) (bd n : Int) (w : World) (hr : Rd w w.heap.size 9 encE A xs) (hc : xs.length ≤ cap) (back : Bool) (hl : xs.length ≤ 60) (hs : saneQ xs bd = false) :
    Calls Try.prog 4 #[.agg #[.slice A xs.length cap, .int .i64 bd], .bool back, .int .i64 n] w fun e w' => e = .returned (.bool true) ∧ Kept w w' := by
  have hu := Try.underlying26
  have hu2 := Try.underlying34
  have hu3 := Try.underlying38
  have hu4 := Try.underlying48
  have hu5 := Try.underlying51
  have hu6 := Try.underlying30
  have d0 : decide ((60 : Int) < (xs.length : Int)) = false := decide_eq_false (by omega)
  go_enter Try.func4, Try.ntmps4
  go_wp2_with fail
  refine (queue_awake _).mono ?_
  rintro e w1 ⟨rfl, hb1⟩
  have B0 := (Blk.new w 30 #[.slice A xs.length cap, .int .i64 bd]).call hb1.out
  have hK := ((Kept.refl w).alloc (.cells #[.slice A xs.length cap, .int .i64 bd] 30)).call hb1.out
  clear hb1
  obtain ⟨c0, f0⟩ := B0.facts
  go_wp2_with fail
  refine (law_ours A cap xs bd _ ((hr.below hK.out).more hK.size) hc (by omega)).mono ?_
  rintro e w2 ⟨⟨v2, rfl, hq2⟩, hb2⟩
  go_wp2_with fail
  refine (queue_Sane_is _ _ _ _ hq2 (by omega) hs).mono ?_
  rintro e w3 ⟨rfl, hb3⟩
  have B0 := (B0.call hb2.out).call hb3.out
  have hK := (hK.call hb2.out).call hb3.out
  clear hb2 hb3 c0 f0 hq2
  obtain ⟨c0, f0⟩ := B0.facts
  go_wp2_with fail
  go_ret
  exact ⟨rfl, hK⟩
set_option maxHeartbeats 1000000 in
set_option maxRecDepth 100000 in
theorem picks_false (A : Option Addr) (cap : Nat) (xs : List EntryV) (bd n : Int) (w : World) (hr : Rd w w.heap.size 9 encE A xs) (hc : xs.length ≤ cap) (hl : xs.length ≤ 60) (hs : saneQ xs bd = true) :
    Calls Try.prog 4 #[.agg #[.slice A xs.length cap, .int .i64 bd], .bool false, .int .i64 n] w fun e w' => e = .returned (.bool true) ∧ Kept w w' := by
  have hu := Try.underlying26
  have hu2 := Try.underlying34
  have hu3 := Try.underlying38
  have hu4 := Try.underlying48
  have hu5 := Try.underlying51
  have hu6 := Try.underlying30
  have d0 : decide ((60 : Int) < (xs.length : Int)) = false := decide_eq_false (by omega)
  go_enter Try.func4, Try.ntmps4
  go_wp2_with fail
  refine (queue_awake _).mono ?_
  rintro e w1 ⟨rfl, hb1⟩
  have B0 := (Blk.new w 30 #[.slice A xs.length cap, .int .i64 bd]).call hb1.out
  have hK := ((Kept.refl w).alloc (.cells #[.slice A xs.length cap, .int .i64 bd] 30)).call hb1.out
  clear hb1
  obtain ⟨c0, f0⟩ := B0.facts
  go_wp2_with fail
  refine (law_ours A cap xs bd _ ((hr.below hK.out).more hK.size) hc (by omega)).mono ?_
  rintro e w2 ⟨⟨v2, rfl, hq2⟩, hb2⟩
  go_wp2_with fail
  refine (queue_Sane_is _ _ _ _ hq2 (by omega) hs).mono ?_
  rintro e w3 ⟨rfl, hb3⟩
  have B0 := (B0.call hb2.out).call hb3.out
  have hK := (hK.call hb2.out).call hb3.out
  clear hb2 hb3 c0 f0 hq2
  obtain ⟨c0, f0⟩ := B0.facts
  go_wp2_with fail
  refine (law_ours A cap xs bd _ ((hr.below hK.out).more hK.size) hc (by omega)).mono ?_
  rintro e w4 ⟨⟨v4, rfl, hq4⟩, hb4⟩
  have B0 := B0.call hb4.out
  have hK := hK.call hb4.out
  clear hb4 c0 f0
  have hz := B0.lt
  obtain ⟨A4, cap4, rfl, _⟩ := id hq4
  obtain ⟨c0, f0⟩ := B0.facts
  go_wp2_with fail
  go_loopw [9] (fun i wr => ∃ (k : Nat) (Ao : Option Addr) (co : Nat), k ≤ xs.length ∧ i = .int .i64 k ∧ Blk wr w.heap.size 30 #[.slice A xs.length cap, .int .i64 bd] ∧ Blk wr w4.heap.size 26 #[.slice Ao (xs.drop k).length co, .int .i64 bd] ∧ IsQ wr (.agg #[.slice Ao (xs.drop k).length co, .int .i64 bd]) (xs.drop k) bd ∧ Kept w wr)
    (fun i _ => xs.length - (intOf i).toNat)
  case atStart =>
    refine ⟨0, A4, cap4, Nat.zero_le _, rfl, B0.alloc _, ?_, ?_, hK.alloc _⟩
    · simpa using Blk.new _ _ _
    · simpa using hq4.alloc _
  case round =>
    obtain ⟨k, Ao, co, hk, rfl, B0, BO, hq, hK⟩ := hrel
    clear c0 f0
    by_cases hlt : k < xs.length
    · obtain ⟨e, he⟩ : ∃ e, xs[k]? = some e := ⟨_, List.getElem?_eq_getElem hlt⟩
      obtain ⟨b, off, rfl, hb, hcs⟩ := hr.get hlt
      rw [(List.getElem?_eq_some_iff.1 he).2] at hcs
      have hne : (xs.drop k)[0]? = some e := by rw [List.getElem?_drop, Nat.add_zero]; exact he
      have her : (xs.drop k).eraseIdx 0 = xs.drop (k + 1) := by rw [List.eraseIdx_zero, List.tail_drop]
      have hsn : saneQ (xs.drop k) bd = true := saneQ_drop hs k
      have hsn2 := saneQ_drop hs (k + 1)
      have hlen0 : (xs.drop k).length = xs.length - k := by simp
      have hlen1 : (xs.drop (k + 1)).length = xs.length - (k + 1) := by simp
      obtain ⟨ys, hys⟩ : ∃ ys, xs.drop k = ys := ⟨_, rfl⟩
      obtain ⟨zs, hzs⟩ : ∃ zs, xs.drop (k + 1) = zs := ⟨_, rfl⟩
      rw [hys] at hne her hsn hlen0 BO hq
      rw [hzs] at her hsn2 hlen1
      have Hzs := Lib.hid hzs
      have Hys := Lib.hid hys
      have He := Lib.hid he
      have Her := Lib.hid her
      have Hl0 := Lib.hid hlen0
      have Hl1 := Lib.hid hlen1
      have Hne := Lib.hid hne
      clear hys hzs he her hlen0 hlen1 hne
      have hk0 : (0 : Int) ≤ (k : Int) := by omega
      have hkl : (k : Int) < (xs.length : Int) := by omega
      have hkw : IntKind.i64.wrap ((k : Int) + 1) = (k : Int) + 1 := by simp [IntKind.wrap, IntKind.bits, IntKind.signed]; omega
      have cc := fun j u (h : (encE e)[j]? = some u) => (hK.out.cell (p := ⟨b, off + k * 9 + j, none⟩) hb).trans (hcs j u h)
      have e0 := cc 0 _ rfl
      rw [Nat.add_zero] at e0
      have e1 := cc 1 _ rfl
      have e2 := cc 2 _ rfl
      have e3 := cc 3 _ rfl
      have e4 := cc 4 _ rfl
      have e5 := cc 5 _ rfl
      have e6 := cc 6 _ rfl
      have e7 := cc 7 _ rfl
      have e8 := cc 8 _ rfl
      have z0 := B0.lt
      have zO := BO.lt
      obtain ⟨c0, f0⟩ := B0.facts
      obtain ⟨cO, fO⟩ := BO.facts
      clear cc
      go_wp2_with fail
      have hw0 := hK
      refine (queue_Pick_some _ ys bd 0 e _ (hq.alloc _) (by rw [Hl0.out]; omega) hsn Hne.out).mono ?_
      rintro r w5 ⟨⟨v5, rfl, hq5⟩, hb5⟩
      rw [Her.out] at hq5
      simp only [vE]
      obtain ⟨A5, cap5, rfl, _⟩ := id hq5
      have BW := (Blk.new wr 51 #[.int .u64 e.a.h, .int .u64 e.a.l, .bool e.a.v, .int .u64 e.x.p.a.h, .int .u64 e.x.p.a.l, .bool e.x.p.a.v, .int .i64 e.x.p.n, .int .i64 e.x.hop, .bool e.stale]).call hb5.out
      have B0 := (B0.alloc (.cells #[.int .u64 e.a.h, .int .u64 e.a.l, .bool e.a.v, .int .u64 e.x.p.a.h, .int .u64 e.x.p.a.l, .bool e.x.p.a.v, .int .i64 e.x.p.n, .int .i64 e.x.hop, .bool e.stale] 51)).call hb5.out
      have BO := (BO.alloc (.cells #[.int .u64 e.a.h, .int .u64 e.a.l, .bool e.a.v, .int .u64 e.x.p.a.h, .int .u64 e.x.p.a.l, .bool e.x.p.a.v, .int .i64 e.x.p.n, .int .i64 e.x.hop, .bool e.stale] 51)).call hb5.out
      have hK := (hK.alloc (.cells #[.int .u64 e.a.h, .int .u64 e.a.l, .bool e.a.v, .int .u64 e.x.p.a.h, .int .u64 e.x.p.a.l, .bool e.x.p.a.v, .int .i64 e.x.p.n, .int .i64 e.x.hop, .bool e.stale] 51)).call hb5.out
      clear hb5 c0 f0 cO fO e0 e1 e2 e3 e4 e5 e6 e7 e8 z0 zO hw0 hq
      have zW := BW.lt
      have zO := BO.lt
      have z0 := B0.lt
      obtain ⟨cW, fW⟩ := BW.facts
      obtain ⟨cO, fO⟩ := BO.facts
      go_wp2_with fail
      refine (queue_Sane_is _ zs bd _ ((hq5.alloc _).alloc _) (by rw [Hl1.out]; omega) hsn2).mono ?_
      rintro r w6 ⟨rfl, hb6⟩
      have BU := ((Blk.new w5 26 #[.slice A5 zs.length cap5, .int .i64 bd]).alloc (.cells #[.int .u64 e.a.h, .int .u64 e.a.l, .bool e.a.v, .int .u64 e.x.p.a.h, .int .u64 e.x.p.a.l, .bool e.x.p.a.v, .int .i64 e.x.p.n, .int .i64 e.x.hop, .bool e.stale] 48)).call hb6.out
      have B0 := ((B0.alloc (.cells #[.slice A5 zs.length cap5, .int .i64 bd] 26)).alloc (.cells #[.int .u64 e.a.h, .int .u64 e.a.l, .bool e.a.v, .int .u64 e.x.p.a.h, .int .u64 e.x.p.a.l, .bool e.x.p.a.v, .int .i64 e.x.p.n, .int .i64 e.x.hop, .bool e.stale] 48)).call hb6.out
      have BO := ((BO.alloc (.cells #[.slice A5 zs.length cap5, .int .i64 bd] 26)).alloc (.cells #[.int .u64 e.a.h, .int .u64 e.a.l, .bool e.a.v, .int .u64 e.x.p.a.h, .int .u64 e.x.p.a.l, .bool e.x.p.a.v, .int .i64 e.x.p.n, .int .i64 e.x.hop, .bool e.stale] 48)).call hb6.out
      have hK := ((hK.alloc (.cells #[.slice A5 zs.length cap5, .int .i64 bd] 26)).alloc (.cells #[.int .u64 e.a.h, .int .u64 e.a.l, .bool e.a.v, .int .u64 e.x.p.a.h, .int .u64 e.x.p.a.l, .bool e.x.p.a.v, .int .i64 e.x.p.n, .int .i64 e.x.hop, .bool e.stale] 48)).call hb6.out
      have hq6 := ((hq5.alloc (.cells #[.slice A5 zs.length cap5, .int .i64 bd] 26)).alloc (.cells #[.int .u64 e.a.h, .int .u64 e.a.l, .bool e.a.v, .int .u64 e.x.p.a.h, .int .u64 e.x.p.a.l, .bool e.x.p.a.v, .int .i64 e.x.p.n, .int .i64 e.x.hop, .bool e.stale] 48)).call hb6.out
      clear hb6 cW fW cO fO zW zO z0 hq5 BW
      have zO := BO.lt
      obtain ⟨cU, fU⟩ := BU.facts
      obtain ⟨cO, fO⟩ := BO.facts
      have Hq6 := Lib.hid hq6
      clear hq6
      go_wp2_with fail
      refine ⟨⟨k + 1, A5, cap5, by omega, by simp, B0.off (by omega) _ |>.off (by omega) _, ?_, ?_, (hK.set (by omega)).set (by omega)⟩, by simp [intOf]; omega⟩
      · rw [Hzs.out]
        exact ((BO.put 0 (.slice A5 zs.length cap5) rfl).put 1 (.int .i64 bd) rfl).cast (by simp)
      · rw [Hzs.out]
        exact (Hq6.out.set BO.tb (by decide) _).set (BO.tb.set _) (by decide) _
    · have hk2 : k = xs.length := by omega
      have hys : (xs.drop k) = [] := by rw [hk2]; simp
      rw [hys] at BO hq
      have d9 : decide ((k : Int) < (xs.length : Int)) = false := decide_eq_false (by omega)
      clear hys
      have Hk2 := Lib.hid hk2
      clear hk2
      obtain ⟨h0, h1, _, _⟩ := saneQ_bd hs
      have hs0 : saneQ [] bd = true := by simpa using saneQ_drop hs xs.length
      have zO := BO.lt
      have zB := B0.lt
      obtain ⟨c0, f0⟩ := B0.facts
      obtain ⟨cO, fO⟩ := BO.facts
      simp only [List.length_nil] at BO hq cO
      by_cases hb0 : bd = 0
      · subst hb0
        go_wp2_with fail
        refine (queue_Pick_none _ [] 0 n _ hq (by decide) hs0 (by simp; omega)).mono ?_
        rintro r w5 ⟨⟨v5, rfl, hq5⟩, hb5⟩
        simp only [vE]
        obtain ⟨A5, cap5, rfl, _⟩ := id hq5
        have B0 := B0.call hb5.out
        have BO := BO.call hb5.out
        have hq := hq.call hb5.out
        have hK := hK.call hb5.out
        clear hb5 c0 f0 cO fO zO zB
        have zO := BO.lt
        have zB := B0.lt
        obtain ⟨c0, f0⟩ := B0.facts
        obtain ⟨cO, fO⟩ := BO.facts
        simp only [List.length_nil]
        go_wp2_with fail
        refine (queue_Offer_full _ [] 0 ⟨0, 0, false⟩ ⟨⟨⟨0, 0, false⟩, 0⟩, 0⟩ _ ((hq.alloc _).alloc _) (by decide) hs0 (by decide) (by decide)).mono ?_
        rintro r w6 ⟨⟨v6, rfl, hq6⟩, hb6⟩
        obtain ⟨A6, cap6, rfl, _⟩ := id hq6
        have B0 := ((B0.alloc (.cells #[.slice A5 0 cap5, .int .i64 0] 26)).alloc (.cells #[.int .u64 0, .int .u64 0, .bool false, .int .u64 0, .int .u64 0, .bool false, .int .i64 0, .int .i64 0, .bool false] 48)).call hb6.out
        have BO := ((BO.alloc (.cells #[.slice A5 0 cap5, .int .i64 0] 26)).alloc (.cells #[.int .u64 0, .int .u64 0, .bool false, .int .u64 0, .int .u64 0, .bool false, .int .i64 0, .int .i64 0, .bool false] 48)).call hb6.out
        have hK := ((hK.alloc (.cells #[.slice A5 0 cap5, .int .i64 0] 26)).alloc (.cells #[.int .u64 0, .int .u64 0, .bool false, .int .u64 0, .int .u64 0, .bool false, .int .i64 0, .int .i64 0, .bool false] 48)).call hb6.out
        clear hb6 c0 f0 cO fO zO zB hq6 hq5 hq
        have zO := BO.lt
        have zB := B0.lt
        obtain ⟨c0, f0⟩ := B0.facts
        obtain ⟨cO, fO⟩ := BO.facts
        simp only [List.length_nil]
        go_wp2_with fail
        go_ret
        exact ⟨rfl, hK.alloc _⟩
      · have dp : decide (0 < bd) = true := decide_eq_true (by omega)
        have db : (0 : Int) ≠ bd := fun h => hb0 h.symm
        go_wp2_with fail
        refine (queue_Pick_none _ [] bd n _ hq (by decide) hs0 (by simp; omega)).mono ?_
        rintro r w5 ⟨⟨v5, rfl, hq5⟩, hb5⟩
        simp only [vE]
        obtain ⟨A5, cap5, rfl, _⟩ := id hq5
        have B0 := B0.call hb5.out
        have BO := BO.call hb5.out
        have hq := hq.call hb5.out
        have hK := hK.call hb5.out
        clear hb5 c0 f0 cO fO zO zB
        have zO := BO.lt
        have zB := B0.lt
        obtain ⟨c0, f0⟩ := B0.facts
        obtain ⟨cO, fO⟩ := BO.facts
        simp only [List.length_nil]
        go_wp2_with fail
        refine (queue_Offer_ok _ [] bd ⟨0, 0, false⟩ ⟨⟨⟨0, 0, false⟩, 0⟩, 0⟩ _ ((hq.alloc _).alloc _) (by decide) hs0 (by decide) (by simpa using db) fit_zero).mono ?_
        rintro r w6 ⟨⟨v6, rfl, hq6⟩, hb6⟩
        obtain ⟨A6, cap6, rfl, _⟩ := id hq6
        have B0 := ((B0.alloc (.cells #[.slice A5 0 cap5, .int .i64 bd] 26)).alloc (.cells #[.int .u64 0, .int .u64 0, .bool false, .int .u64 0, .int .u64 0, .bool false, .int .i64 0, .int .i64 0, .bool false] 48)).call hb6.out
        have BO := ((BO.alloc (.cells #[.slice A5 0 cap5, .int .i64 bd] 26)).alloc (.cells #[.int .u64 0, .int .u64 0, .bool false, .int .u64 0, .int .u64 0, .bool false, .int .i64 0, .int .i64 0, .bool false] 48)).call hb6.out
        have hK := ((hK.alloc (.cells #[.slice A5 0 cap5, .int .i64 bd] 26)).alloc (.cells #[.int .u64 0, .int .u64 0, .bool false, .int .u64 0, .int .u64 0, .bool false, .int .i64 0, .int .i64 0, .bool false] 48)).call hb6.out
        clear hb6 c0 f0 cO fO zO zB hq6 hq5 hq
        have zO := BO.lt
        have zB := B0.lt
        obtain ⟨c0, f0⟩ := B0.facts
        obtain ⟨cO, fO⟩ := BO.facts
        have Hb0 := Lib.hid hb0
        have Hdb := Lib.hid db
        clear hb0 db
        simp only [List.nil_append, List.length_singleton]
        go_wp2_with fail
        go_ret
        exact ⟨rfl, hK.alloc _⟩
set_option maxHeartbeats 1000000 in
set_option maxRecDepth 100000 in
theorem picks_true (A : Option Addr) (cap : Nat) (xs : List EntryV) (bd n : Int) (w : World) (hr : Rd w w.heap.size 9 encE A xs) (hc : xs.length ≤ cap) (hl : xs.length ≤ 60) (hs : saneQ xs bd = true) :
    Calls Try.prog 4 #[.agg #[.slice A xs.length cap, .int .i64 bd], .bool true, .int .i64 n] w fun e w' => e = .returned (.bool true) ∧ Kept w w' := by
  have hu := Try.underlying26
  have hu2 := Try.underlying34
  have hu3 := Try.underlying38
  have hu4 := Try.underlying48
  have hu5 := Try.underlying51
  have hu6 := Try.underlying30
  have d0 : decide ((60 : Int) < (xs.length : Int)) = false := decide_eq_false (by omega)
  go_enter Try.func4, Try.ntmps4
  go_wp2_with fail
  refine (queue_awake _).mono ?_
  rintro e w1 ⟨rfl, hb1⟩
  have B0 := (Blk.new w 30 #[.slice A xs.length cap, .int .i64 bd]).call hb1.out
  have hK := ((Kept.refl w).alloc (.cells #[.slice A xs.length cap, .int .i64 bd] 30)).call hb1.out
  clear hb1
  obtain ⟨c0, f0⟩ := B0.facts
  go_wp2_with fail
  refine (law_ours A cap xs bd _ ((hr.below hK.out).more hK.size) hc (by omega)).mono ?_
  rintro e w2 ⟨⟨v2, rfl, hq2⟩, hb2⟩
  go_wp2_with fail
  refine (queue_Sane_is _ _ _ _ hq2 (by omega) hs).mono ?_
  rintro e w3 ⟨rfl, hb3⟩
  have B0 := (B0.call hb2.out).call hb3.out
  have hK := (hK.call hb2.out).call hb3.out
  clear hb2 hb3 c0 f0 hq2
  obtain ⟨c0, f0⟩ := B0.facts
  go_wp2_with fail
  refine (law_ours A cap xs bd _ ((hr.below hK.out).more hK.size) hc (by omega)).mono ?_
  rintro e w4 ⟨⟨v4, rfl, hq4⟩, hb4⟩
  have B0 := B0.call hb4.out
  have hK := hK.call hb4.out
  clear hb4 c0 f0
  have hz := B0.lt
  obtain ⟨A4, cap4, rfl, _⟩ := id hq4
  obtain ⟨c0, f0⟩ := B0.facts
  go_wp2_with fail
  go_loopw [9] (fun i wr => ∃ (k : Nat) (Ao : Option Addr) (co : Nat), k ≤ xs.length ∧ i = .int .i64 k ∧ Blk wr w.heap.size 30 #[.slice A xs.length cap, .int .i64 bd] ∧ Blk wr w4.heap.size 26 #[.slice Ao (xs.take (xs.length - k)).length co, .int .i64 bd] ∧ IsQ wr (.agg #[.slice Ao (xs.take (xs.length - k)).length co, .int .i64 bd]) (xs.take (xs.length - k)) bd ∧ Kept w wr)
    (fun i _ => xs.length - (intOf i).toNat)
  case atStart =>
    refine ⟨0, A4, cap4, Nat.zero_le _, rfl, B0.alloc _, ?_, ?_, hK.alloc _⟩
    · simpa using Blk.new _ _ _
    · simpa using hq4.alloc _
  case round =>
    obtain ⟨k, Ao, co, hk, rfl, B0, BO, hq, hK⟩ := hrel
    clear c0 f0
    by_cases hlt : k < xs.length
    · obtain ⟨m, hm⟩ : ∃ m, m + k + 1 = xs.length := ⟨xs.length - k - 1, by omega⟩
      have hmlt : m < xs.length := by omega
      obtain ⟨e, he⟩ : ∃ e, xs[m]? = some e := ⟨_, List.getElem?_eq_getElem hmlt⟩
      obtain ⟨d, hd⟩ : ∃ d, xs[k]? = some d := ⟨_, List.getElem?_eq_getElem hlt⟩
      obtain ⟨b, off, rfl, hb, hcs⟩ := hr.get hmlt
      obtain ⟨b', off', hbo, _, hds⟩ := hr.get hlt
      injection hbo with hbo
      injection hbo with hbo1 hbo2
      subst hbo1 hbo2
      rw [(List.getElem?_eq_some_iff.1 he).2] at hcs
      rw [(List.getElem?_eq_some_iff.1 hd).2] at hds
      have hne : (xs.take (xs.length - k))[m]? = some e := by rw [List.getElem?_take, if_pos (by omega)]; exact he
      have her : (xs.take (xs.length - k)).eraseIdx m = xs.take (xs.length - (k + 1)) := by
        rw [List.eraseIdx_eq_take_drop_succ, List.take_take, List.drop_of_length_le (by simp; omega), List.append_nil]
        congr 1
        omega
      have hsn : saneQ (xs.take (xs.length - k)) bd = true := saneQ_take hs _
      have hsn2 := saneQ_take hs (xs.length - (k + 1))
      have hlen0 : (xs.take (xs.length - k)).length = xs.length - k := by simp
      have hlen1 : (xs.take (xs.length - (k + 1))).length = xs.length - (k + 1) := by simp
      obtain ⟨ys, hys⟩ : ∃ ys, xs.take (xs.length - k) = ys := ⟨_, rfl⟩
      obtain ⟨zs, hzs⟩ : ∃ zs, xs.take (xs.length - (k + 1)) = zs := ⟨_, rfl⟩
      rw [hys] at hne her hsn hlen0 BO hq
      rw [hzs] at her hsn2 hlen1
      have Hzs := Lib.hid hzs
      have Hys := Lib.hid hys
      have He := Lib.hid he
      have Her := Lib.hid her
      have Hl0 := Lib.hid hlen0
      have Hl1 := Lib.hid hlen1
      have Hne := Lib.hid hne
      clear hys hzs he her hlen0 hlen1 hne
      have hk0 : (0 : Int) ≤ (k : Int) := by omega
      have hkl : (k : Int) < (xs.length : Int) := by omega
      have hkw : IntKind.i64.wrap ((k : Int) + 1) = (k : Int) + 1 := by simp [IntKind.wrap, IntKind.bits, IntKind.signed]; omega
      have hw1 : IntKind.i64.wrap ((ys.length : Int) - 1) = (m : Int) := by rw [Hl0.out]; simp [IntKind.wrap, IntKind.bits, IntKind.signed]; omega
      have hw2 : IntKind.i64.wrap ((xs.length : Int) - 1) = (xs.length : Int) - 1 := by simp [IntKind.wrap, IntKind.bits, IntKind.signed]; omega
      have hw3 : IntKind.i64.wrap ((xs.length : Int) - 1 - (k : Int)) = (m : Int) := by simp [IntKind.wrap, IntKind.bits, IntKind.signed]; omega
      have hm0 : (0 : Int) ≤ (m : Int) := by omega
      have hml : (m : Int) < (xs.length : Int) := by omega
      have zb : b < wr.heap.size := Nat.lt_of_lt_of_le hb hK.size
      have Hm := Lib.hid hm
      clear hm
      have cc := fun j u (h : (encE e)[j]? = some u) => (hK.out.cell (p := ⟨b, off + m * 9 + j, none⟩) hb).trans (hcs j u h)
      have e0 := cc 0 _ rfl
      rw [Nat.add_zero] at e0
      have e1 := cc 1 _ rfl
      have e2 := cc 2 _ rfl
      have e3 := cc 3 _ rfl
      have e4 := cc 4 _ rfl
      have e5 := cc 5 _ rfl
      have e6 := cc 6 _ rfl
      have e7 := cc 7 _ rfl
      have e8 := cc 8 _ rfl
      have dd := fun j u (h : (encE d)[j]? = some u) => (hK.out.cell (p := ⟨b, off + k * 9 + j, none⟩) hb).trans (hds j u h)
      have d0_ := dd 0 _ rfl
      rw [Nat.add_zero] at d0_
      have d1_ := dd 1 _ rfl
      have d2_ := dd 2 _ rfl
      have d3_ := dd 3 _ rfl
      have d4_ := dd 4 _ rfl
      have d5_ := dd 5 _ rfl
      have d6_ := dd 6 _ rfl
      have d7_ := dd 7 _ rfl
      have d8_ := dd 8 _ rfl
      clear dd
      have z0 := B0.lt
      have zO := BO.lt
      obtain ⟨c0, f0⟩ := B0.facts
      obtain ⟨cO, fO⟩ := BO.facts
      clear cc
      go_wp2_with fail
      have hw0 := hK
      refine (queue_Pick_some _ ys bd m e _ (hq.alloc _) (by rw [Hl0.out]; omega) hsn Hne.out).mono ?_
      rintro r w5 ⟨⟨v5, rfl, hq5⟩, hb5⟩
      rw [Her.out] at hq5
      simp only [vE]
      obtain ⟨A5, cap5, rfl, _⟩ := id hq5
      have BW := (Blk.new wr 51 #[.int .u64 e.a.h, .int .u64 e.a.l, .bool e.a.v, .int .u64 e.x.p.a.h, .int .u64 e.x.p.a.l, .bool e.x.p.a.v, .int .i64 e.x.p.n, .int .i64 e.x.hop, .bool e.stale]).call hb5.out
      have B0 := (B0.alloc (.cells #[.int .u64 e.a.h, .int .u64 e.a.l, .bool e.a.v, .int .u64 e.x.p.a.h, .int .u64 e.x.p.a.l, .bool e.x.p.a.v, .int .i64 e.x.p.n, .int .i64 e.x.hop, .bool e.stale] 51)).call hb5.out
      have BO := (BO.alloc (.cells #[.int .u64 e.a.h, .int .u64 e.a.l, .bool e.a.v, .int .u64 e.x.p.a.h, .int .u64 e.x.p.a.l, .bool e.x.p.a.v, .int .i64 e.x.p.n, .int .i64 e.x.hop, .bool e.stale] 51)).call hb5.out
      have hK := (hK.alloc (.cells #[.int .u64 e.a.h, .int .u64 e.a.l, .bool e.a.v, .int .u64 e.x.p.a.h, .int .u64 e.x.p.a.l, .bool e.x.p.a.v, .int .i64 e.x.p.n, .int .i64 e.x.hop, .bool e.stale] 51)).call hb5.out
      clear hb5 c0 f0 cO fO e0 e1 e2 e3 e4 e5 e6 e7 e8 z0 zO hw0 hq
      have zW := BW.lt
      have zO := BO.lt
      have z0 := B0.lt
      obtain ⟨cW, fW⟩ := BW.facts
      obtain ⟨cO, fO⟩ := BO.facts
      go_wp2_with fail
      refine (queue_Sane_is _ zs bd _ ((hq5.alloc _).alloc _) (by rw [Hl1.out]; omega) hsn2).mono ?_
      rintro r w6 ⟨rfl, hb6⟩
      have BU := ((Blk.new w5 26 #[.slice A5 zs.length cap5, .int .i64 bd]).alloc (.cells #[.int .u64 e.a.h, .int .u64 e.a.l, .bool e.a.v, .int .u64 e.x.p.a.h, .int .u64 e.x.p.a.l, .bool e.x.p.a.v, .int .i64 e.x.p.n, .int .i64 e.x.hop, .bool e.stale] 48)).call hb6.out
      have B0 := ((B0.alloc (.cells #[.slice A5 zs.length cap5, .int .i64 bd] 26)).alloc (.cells #[.int .u64 e.a.h, .int .u64 e.a.l, .bool e.a.v, .int .u64 e.x.p.a.h, .int .u64 e.x.p.a.l, .bool e.x.p.a.v, .int .i64 e.x.p.n, .int .i64 e.x.hop, .bool e.stale] 48)).call hb6.out
      have BO := ((BO.alloc (.cells #[.slice A5 zs.length cap5, .int .i64 bd] 26)).alloc (.cells #[.int .u64 e.a.h, .int .u64 e.a.l, .bool e.a.v, .int .u64 e.x.p.a.h, .int .u64 e.x.p.a.l, .bool e.x.p.a.v, .int .i64 e.x.p.n, .int .i64 e.x.hop, .bool e.stale] 48)).call hb6.out
      have hK := ((hK.alloc (.cells #[.slice A5 zs.length cap5, .int .i64 bd] 26)).alloc (.cells #[.int .u64 e.a.h, .int .u64 e.a.l, .bool e.a.v, .int .u64 e.x.p.a.h, .int .u64 e.x.p.a.l, .bool e.x.p.a.v, .int .i64 e.x.p.n, .int .i64 e.x.hop, .bool e.stale] 48)).call hb6.out
      have hq6 := ((hq5.alloc (.cells #[.slice A5 zs.length cap5, .int .i64 bd] 26)).alloc (.cells #[.int .u64 e.a.h, .int .u64 e.a.l, .bool e.a.v, .int .u64 e.x.p.a.h, .int .u64 e.x.p.a.l, .bool e.x.p.a.v, .int .i64 e.x.p.n, .int .i64 e.x.hop, .bool e.stale] 48)).call hb6.out
      clear hb6 cW fW cO fO zW zO z0 hq5 BW
      have zO := BO.lt
      obtain ⟨cU, fU⟩ := BU.facts
      obtain ⟨cO, fO⟩ := BO.facts
      have Hq6 := Lib.hid hq6
      clear hq6
      go_wp2_with fail
      refine ⟨⟨k + 1, A5, cap5, by omega, by simp, B0.off (by omega) _ |>.off (by omega) _, ?_, ?_, (hK.set (by omega)).set (by omega)⟩, by simp [intOf]; omega⟩
      · rw [Hzs.out]
        exact ((BO.put 0 (.slice A5 zs.length cap5) rfl).put 1 (.int .i64 bd) rfl).cast (by simp)
      · rw [Hzs.out]
        exact (Hq6.out.set BO.tb (by decide) _).set (BO.tb.set _) (by decide) _
    · have hk2 : k = xs.length := by omega
      have hys : (xs.take (xs.length - k)) = [] := by rw [hk2]; simp
      rw [hys] at BO hq
      have d9 : decide ((k : Int) < (xs.length : Int)) = false := decide_eq_false (by omega)
      clear hys
      have Hk2 := Lib.hid hk2
      clear hk2
      obtain ⟨h0, h1, _, _⟩ := saneQ_bd hs
      have hs0 : saneQ [] bd = true := by simpa using saneQ_drop hs xs.length
      have zO := BO.lt
      have zB := B0.lt
      obtain ⟨c0, f0⟩ := B0.facts
      obtain ⟨cO, fO⟩ := BO.facts
      simp only [List.length_nil] at BO hq cO
      by_cases hb0 : bd = 0
      · subst hb0
        go_wp2_with fail
        refine (queue_Pick_none _ [] 0 n _ hq (by decide) hs0 (by simp; omega)).mono ?_
        rintro r w5 ⟨⟨v5, rfl, hq5⟩, hb5⟩
        simp only [vE]
        obtain ⟨A5, cap5, rfl, _⟩ := id hq5
        have B0 := B0.call hb5.out
        have BO := BO.call hb5.out
        have hq := hq.call hb5.out
        have hK := hK.call hb5.out
        clear hb5 c0 f0 cO fO zO zB
        have zO := BO.lt
        have zB := B0.lt
        obtain ⟨c0, f0⟩ := B0.facts
        obtain ⟨cO, fO⟩ := BO.facts
        simp only [List.length_nil]
        go_wp2_with fail
        refine (queue_Offer_full _ [] 0 ⟨0, 0, false⟩ ⟨⟨⟨0, 0, false⟩, 0⟩, 0⟩ _ ((hq.alloc _).alloc _) (by decide) hs0 (by decide) (by decide)).mono ?_
        rintro r w6 ⟨⟨v6, rfl, hq6⟩, hb6⟩
        obtain ⟨A6, cap6, rfl, _⟩ := id hq6
        have B0 := ((B0.alloc (.cells #[.slice A5 0 cap5, .int .i64 0] 26)).alloc (.cells #[.int .u64 0, .int .u64 0, .bool false, .int .u64 0, .int .u64 0, .bool false, .int .i64 0, .int .i64 0, .bool false] 48)).call hb6.out
        have BO := ((BO.alloc (.cells #[.slice A5 0 cap5, .int .i64 0] 26)).alloc (.cells #[.int .u64 0, .int .u64 0, .bool false, .int .u64 0, .int .u64 0, .bool false, .int .i64 0, .int .i64 0, .bool false] 48)).call hb6.out
        have hK := ((hK.alloc (.cells #[.slice A5 0 cap5, .int .i64 0] 26)).alloc (.cells #[.int .u64 0, .int .u64 0, .bool false, .int .u64 0, .int .u64 0, .bool false, .int .i64 0, .int .i64 0, .bool false] 48)).call hb6.out
        clear hb6 c0 f0 cO fO zO zB hq6 hq5 hq
        have zO := BO.lt
        have zB := B0.lt
        obtain ⟨c0, f0⟩ := B0.facts
        obtain ⟨cO, fO⟩ := BO.facts
        simp only [List.length_nil]
        go_wp2_with fail
        go_ret
        exact ⟨rfl, hK.alloc _⟩
      · have dp : decide (0 < bd) = true := decide_eq_true (by omega)
        have db : (0 : Int) ≠ bd := fun h => hb0 h.symm
        go_wp2_with fail
        refine (queue_Pick_none _ [] bd n _ hq (by decide) hs0 (by simp; omega)).mono ?_
        rintro r w5 ⟨⟨v5, rfl, hq5⟩, hb5⟩
        simp only [vE]
        obtain ⟨A5, cap5, rfl, _⟩ := id hq5
        have B0 := B0.call hb5.out
        have BO := BO.call hb5.out
        have hq := hq.call hb5.out
        have hK := hK.call hb5.out
        clear hb5 c0 f0 cO fO zO zB
        have zO := BO.lt
        have zB := B0.lt
        obtain ⟨c0, f0⟩ := B0.facts
        obtain ⟨cO, fO⟩ := BO.facts
        simp only [List.length_nil]
        go_wp2_with fail
        refine (queue_Offer_ok _ [] bd ⟨0, 0, false⟩ ⟨⟨⟨0, 0, false⟩, 0⟩, 0⟩ _ ((hq.alloc _).alloc _) (by decide) hs0 (by decide) (by simpa using db) fit_zero).mono ?_
        rintro r w6 ⟨⟨v6, rfl, hq6⟩, hb6⟩
        obtain ⟨A6, cap6, rfl, _⟩ := id hq6
        have B0 := ((B0.alloc (.cells #[.slice A5 0 cap5, .int .i64 bd] 26)).alloc (.cells #[.int .u64 0, .int .u64 0, .bool false, .int .u64 0, .int .u64 0, .bool false, .int .i64 0, .int .i64 0, .bool false] 48)).call hb6.out
        have BO := ((BO.alloc (.cells #[.slice A5 0 cap5, .int .i64 bd] 26)).alloc (.cells #[.int .u64 0, .int .u64 0, .bool false, .int .u64 0, .int .u64 0, .bool false, .int .i64 0, .int .i64 0, .bool false] 48)).call hb6.out
        have hK := ((hK.alloc (.cells #[.slice A5 0 cap5, .int .i64 bd] 26)).alloc (.cells #[.int .u64 0, .int .u64 0, .bool false, .int .u64 0, .int .u64 0, .bool false, .int .i64 0, .int .i64 0, .bool false] 48)).call hb6.out
        clear hb6 c0 f0 cO fO zO zB hq6 hq5 hq
        have zO := BO.lt
        have zB := B0.lt
        obtain ⟨c0, f0⟩ := B0.facts
        obtain ⟨cO, fO⟩ := BO.facts
        have Hb0 := Lib.hid hb0
        have Hdb := Lib.hid db
        clear hb0 db
        simp only [List.nil_append, List.length_singleton]
        go_wp2_with fail
        go_ret
        exact ⟨rfl, hK.alloc _⟩
end Go.Proofs.Ytapiffkeclnbbaa.Q
