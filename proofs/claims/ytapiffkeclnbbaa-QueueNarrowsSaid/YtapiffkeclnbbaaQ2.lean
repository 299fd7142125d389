import Derived.Test.YtapiffkeclnbbaaProg
import Derived.Below
import Derived.Deep.Draws
import Derived.Deep.AppendLies
import Derived.Maps.AppendAt
import Derived.OwnWalk
import Derived.Laws.MakeOwn
import Derived.Laws.OwnMore
import Derived.Deep.OwnRows
import Derived.Tactics
import Derived.Laws.Slices
import Derived.WalkKit
import Derived.KernelRfl
import Derived.RowKit3
import Derived.Deep.LoopGhost
import Derived.Deep.QuietTactic
import Derived.BigQuiet
import Derived.WideLaws
import Derived.Deep.DeepCutAuto
import Derived.Deep.CutBlock
import Derived.Deep.RegionHeld3
import Derived.Deep.RegionWith
import Derived.Deep.RegionLaw
import Derived.Laws.Rows
import Derived.ArgAppend
import Derived.OrdersHeld
import Derived.Laws.BitsLemmas
import Derived.Laws.StructEq
import Derived.RowKit
import Derived.Lib.Hide
import Derived.Lib.SliceRun
import Derived.StillTail
import Derived.RangeFuncNested
import Derived.RangeFuncBound
import Derived.RangeFuncCalls
import Derived.RangeFuncLeaves
import Derived.Shelf.Abstract
import Derived.Shelf.RegionOpen
import Derived.OwnWalkIn
import Derived.TacticsInMore
import Derived.LoopNIn
import Derived.LoopIn
import Derived.Test.YtapiffkeclnbbaaB0
import Derived.Test.YtapiffkeclnbbaaB1
import Derived.Test.YtapiffkeclnbbaaB2
import Derived.Test.YtapiffkeclnbbaaB3
import Derived.Test.YtapiffkeclnbbaaB4
import Derived.Test.YtapiffkeclnbbaaB5
import Derived.Test.YtapiffkeclnbbaaA1
import Derived.Test.YtapiffkeclnbbaaA2
import Derived.Test.YtapiffkeclnbbaaA3
import Derived.Test.YtapiffkeclnbbaaA4
import Derived.Test.YtapiffkeclnbbaaA5
import Derived.Test.YtapiffkeclnbbaaQ1
set_option linter.unusedVariables false
set_option linter.unusedSimpArgs false
namespace Go.Proofs.Ytapiffkeclnbbaa.Q
open Go.RowKit Go.Shelf Go.Proofs.Ytapiffkeclnbbaa.B0 Go.Proofs.Ytapiffkeclnbbaa.A1 Go.Proofs.Ytapiffkeclnbbaa.A2
attribute [local go_sem] Oper.semAt_some

/-- the first entry that has an address in its block; -1: none -/
def firE (xs : List EntryV) (a : AddrV) : Int := match xs.findIdx? (fun e => conP e.x.p a) with
  | some i => (i : Int)
  | none => -1
theorem hits_nil {xs : List EntryV} {a : AddrV} {k : Nat} (h : hits xs a k = []) : ∀ i, i < k → ∀ e, xs[i]? = some e → conP e.x.p a = false := by
  intro i hi e he
  unfold hits at h
  rw [List.filter_eq_nil_iff] at h
  have := h i (List.mem_range.2 hi)
  simpa [he] using this
theorem firE_none {xs : List EntryV} {a : AddrV} (h : hits xs a xs.length = []) : firE xs a = -1 := by
  have hn : xs.findIdx? (fun e => conP e.x.p a) = none := by
    rw [List.findIdx?_eq_none_iff]
    intro e he
    obtain ⟨i, hi, rfl⟩ := List.mem_iff_getElem.1 he
    exact hits_nil h i hi _ (List.getElem?_eq_getElem hi)
  simp [firE, hn]
theorem firE_some {xs : List EntryV} {a : AddrV} {k : Nat} (hk : k < xs.length) (hc : conP (xs[k]?.elim ⟨⟨0, 0, false⟩, 0⟩ (·.x.p)) a = true) (h : hits xs a k = []) : firE xs a = k := by
  have hn : xs.findIdx? (fun e => conP e.x.p a) = some k := by
    rw [List.findIdx?_eq_some_iff_getElem]
    refine ⟨hk, by simpa [List.getElem?_eq_getElem hk] using hc, fun j hj => ?_⟩
    have := hits_nil h j hj _ (List.getElem?_eq_getElem (by omega))
    simp [this]
  simp [firE, hn]

set_option maxHeartbeats 1000000 in
theorem blocks_in (n : Nat) (A : Option Addr) (len cap : Nat) (a : AddrV) (w : World) :
    CallsIn Fence.wide n Try.prog 140 #[.slice A len cap, .agg #[.int .u64 a.h, .int .u64 a.l, .bool a.v]] w fun e w' => e = .returned (.func (.func 161) #[] #[.pointer (some ⟨w.heap.size, 0, none⟩), .pointer (some ⟨w.heap.size + 1, 0, none⟩)]) ∧ w' = (w.alloc (.cells #[.slice A len cap] 24)).alloc (.cells #[.int .u64 a.h, .int .u64 a.l, .bool a.v] 34) := by
  have hu := Try.underlying34
  refine callsIn_of_wp Try.func140 rfl trivial ?_ rfl
  simp only [Try.ntmps140, List.size_toArray, List.length_cons, List.length_nil, Nat.reduceAdd, Nat.reduceSub, Array.replicate_succ, Array.replicate_zero, List.push_toArray, List.append_toArray, List.nil_append, List.cons_append]
  gi_wp2
  go_ret
  exact ⟨rfl, rfl⟩

theorem blocks_stops (n : Nat) (Bl Ba n₀ : Nat) (A : Option Addr) (cap : Nat) (a : AddrV) (xs : List EntryV) (hlen : xs.length ≤ 9223372036854775807) (w : World) (S : Nat → Prop) (hSn : ∀ k, k < n₀ → S k) (hSa : S Ba) (hSW : ∀ k, S k → k < w.heap.size) (hn : n₀ ≤ w.heap.size)
    (bl : Blk w Bl 24 #[.slice A xs.length cap]) (ba : Blk w Ba 34 #[.int .u64 a.h, .int .u64 a.l, .bool a.v]) (hr : Rd w n₀ 9 encE A xs) :
    SeqStopsK Fence.wide n Try.prog 161 #[.pointer (some ⟨Bl, 0, none⟩), .pointer (some ⟨Ba, 0, none⟩)] (fun x : Nat => #[Value.int .i64 (x : Int)]) (KpS S) (fun ys => ys = hits xs a xs.length)
      (fun pre => ∃ k, k < xs.length ∧ conP (xs[k]?.elim ⟨⟨0, 0, false⟩, 0⟩ (·.x.p)) a = true ∧ pre = hits xs a k ++ [k]) xs.length w := fun l J Jx W hW hJ _ hY h0 =>
  blocks_walk n l Bl Ba n₀ A cap a xs hlen W S hSn hSa (fun k hk => Nat.lt_of_lt_of_le (hSW k hk) hW.size) J Jx (Nat.le_trans hn hW.size) hJ hY (bl.call hW) (ba.call hW) (hr.call hn hW) h0

set_option maxRecDepth 100000 in
set_option maxHeartbeats 2000000 in
theorem first_in (n : Nat) (hn : 3 ≤ n) (A : Option Addr) (cap : Nat) (a : AddrV) (xs : List EntryV) (hlen : xs.length ≤ 9223372036854775807) (w : World) (hr : Rd w w.heap.size 9 encE A xs) :
    CallsIn Fence.wide n Try.prog 88 #[.slice A xs.length cap, .agg #[.int .u64 a.h, .int .u64 a.l, .bool a.v]] w fun e w' => e = .returned (.int .i64 (firE xs a)) ∧ Kept w w' := by
  have hu := Try.underlying34
  have h1 : 1 ≤ n := by omega
  refine callsIn_of_wp_marks Try.func88 rfl trivial ?_ rfl
  simp only [Try.ntmps88, List.size_toArray, List.length_cons, List.length_nil, Nat.reduceAdd, Nat.reduceSub, Array.replicate_succ, Array.replicate_zero, List.push_toArray, List.append_toArray, List.nil_append, List.cons_append]
  gi_wp2_with fail
  refine ⟨trivial, ?_⟩
  refine (blocks_in (n - 1) _ _ _ _ _).mono ?_
  rintro e w' ⟨rfl, rfl⟩
  gi_wp2_with fail
  obtain ⟨W0, hW0⟩ : ∃ W0, (((w.alloc (.cells #[.int .u64 a.h, .int .u64 a.l, .bool a.v] 34)).alloc (.cells #[.int .i64 0] 3)).alloc (.cells #[.slice A xs.length cap] 24)).alloc (.cells #[.int .u64 a.h, .int .u64 a.l, .bool a.v] 34) = W0 := ⟨_, rfl⟩
  have bR : Blk W0 (w.heap.size + 1) 3 #[.int .i64 0] := hW0 ▸ ((Blk.new2 w _ _ _).alloc _).alloc _
  have bl : Blk W0 (w.heap.size + 1 + 1) 24 #[.slice A xs.length cap] := hW0 ▸ (Blk.new3 w _ _ _ _).alloc _
  have ba : Blk W0 (w.heap.size + 1 + 1 + 1) 34 #[.int .u64 a.h, .int .u64 a.l, .bool a.v] := hW0 ▸ Blk.new4 w _ _ _ _ _
  have hK : Kept w W0 := hW0 ▸ ((((Kept.refl w).alloc _).alloc _).alloc _).alloc _
  have hz : W0.heap.size = w.heap.size + 4 := by rw [← hW0]; simp
  have hr0 := hr.below hK.out

  rw [hW0]
  clear hW0
  have hS : ∀ k, (k < w.heap.size ∨ k = w.heap.size + 1 + 1 + 1) → k < W0.heap.size := fun k hk => by omega
  refine wpIn_rangeFunc_ownG rfl h1 (gf := 161) (lb := #[.pointer (some ⟨w.heap.size + 1 + 1, 0, none⟩), .pointer (some ⟨w.heap.size + 1 + 1 + 1, 0, none⟩)]) rfl trivial (enters_of Try.func161 (by kernel_rfl) rfl)
    (blocks_stops (n - 1) (w.heap.size + 1 + 1) (w.heap.size + 1 + 1 + 1) w.heap.size A cap a xs hlen W0 (fun k => k < w.heap.size ∨ k = w.heap.size + 1 + 1 + 1) (fun k hk => .inl hk) (.inr rfl) hS (by omega) bl ba hr0)
    (fun h k => h.trans k) (fun W l o o' hl ho _ _ => KpS.put ho (fun k hk => Nat.lt_of_lt_of_le (hS k hk) hl)) (Below.refl _ _) (fun _ => rfl)
    (fun pre W => (pre = [] ∧ W.cell? ⟨w.heap.size + 1, 0, none⟩ = some (.int .i64 0) ∧ W.frozen? ⟨w.heap.size + 1, 0, none⟩ = false) ∧ Below w.heap.size w W)
    (fun c pre W => (c = .ret ∧ ∃ x : Nat, pre = [x] ∧ W.cell? ⟨w.heap.size + 1, 0, none⟩ = some (.int .i64 (x : Int))) ∧ Below w.heap.size w W)
    (OwnFrom.and (Own.from (fun s A B row hs hg hr => ⟨hs.1, cell_kept hs.2.1 hg hr, (frozen_kept hs.2.1 hg hr).trans hs.2.2⟩) _) (ownFrom_below (Nat.le_refl _) (by omega)))
    (fun c => OwnFrom.and (Own.from (fun s A B row hs hg hr => by obtain ⟨hc, x, e1, e4⟩ := hs; exact ⟨hc, x, e1, cell_kept e4 hg hr⟩) _) (ownFrom_below (Nat.le_refl _) (by omega)))
    ⟨⟨rfl, bR.cell 0, bR.frozen 0⟩, hK.out⟩
    (fun x => { tmps := #[.slice A xs.length cap, .agg #[.int .u64 a.h, .int .u64 a.l, .bool a.v], undef, .pointer (some ⟨w.heap.size, 0, none⟩), .pointer (some ⟨w.heap.size + 1, 0, none⟩), .int .i64 (x : Int), .slice A xs.length cap, .agg #[.int .u64 a.h, .int .u64 a.l, .bool a.v], .func (.func 161) #[] #[.pointer (some ⟨w.heap.size + 1 + 1, 0, none⟩), .pointer (some ⟨w.heap.size + 1 + 1 + 1, 0, none⟩)], .int .i64 (x : Int), undef], defers := [] }) ?assign ?body ?done ?stop
  case assign =>
    intro l x W K hK
    gi_wp2
    exact hK
  case body =>
    rintro l pre x W ⟨⟨rfl, hcr, hfr⟩, hB⟩ _
    gi_wp2
    exact ⟨(KeepsOthers.setCell _ _ _).from _, ⟨rfl, x, rfl, World.cell?_setCell_same' _ _ _ (by rw [hcr]; rfl)⟩, hB.setCell (p := ⟨w.heap.size + 1, 0, none⟩) (by simp) _⟩
  case done =>
    rintro D ys W hD hys ⟨⟨hne, hcr, hfr⟩, hB⟩ hKD
    have hfi := firE_none (hys.symm.trans hne)
    clear hys hne
    gi_wp2
    have hK' := (KeepsOthers.setCell W ⟨w.heap.size + 1, 0, none⟩ (.int .i64 (-1))).same D _ hKD rfl
    refine ⟨by simp, .inl ⟨_, _, rfl, run_takeDeferred hK', ?_⟩⟩
    have hc5 := cell_kept (World.cell?_setCell_same' W ⟨w.heap.size + 1, 0, none⟩ (.int .i64 (-1)) (by rw [hcr]; rfl)) (grownBy_putObj' _ D (.deferred none)) (fun r e => by cases e; exact ⟨_, hK', rfl⟩)
    refine ⟨.int .i64 (-1), ?_, by rw [hfi], (hB.setCell (p := ⟨w.heap.size + 1, 0, none⟩) (by simp) _).trans (belowK_b (w := w) (Nat.le_refl _) _ D _ _ (by omega) hK' rfl rfl)⟩
    simp [results, Try.f88, go_sem, hc5]
  case stop =>
    rintro D c pre W hD ⟨k, hk, hck, hpre⟩ ⟨⟨rfl, x, hx, hcr⟩, hB⟩ hKD
    have hh : hits xs a k = [] ∧ k = x := by
      rw [hpre] at hx
      cases hq : hits xs a k with
      | nil => rw [hq] at hx; exact ⟨rfl, by simpa using hx⟩
      | cons y ys => rw [hq] at hx; simp at hx
    obtain ⟨hh, rfl⟩ := hh
    have hfi := firE_some hk hck hh
    clear hpre hx hh hck
    gi_wp2
    refine ⟨by simp, .inl ⟨_, _, rfl, run_takeDeferred hKD, ?_⟩⟩
    have hc5 := cell_kept hcr (grownBy_putObj' _ D (.deferred none)) (fun r e => by cases e; exact ⟨_, hKD, rfl⟩)
    refine ⟨.int .i64 (k : Int), ?_, by rw [hfi], hB.trans (belowK_b (w := w) (Nat.le_refl _) W D _ _ (by omega) hKD rfl rfl)⟩
    simp [results, Try.f88, go_sem, hc5]

theorem queue_first (A : Option Addr) (cap : Nat) (a : AddrV) (xs : List EntryV) (hlen : xs.length ≤ 9223372036854775807) (w : World) (hr : Rd w w.heap.size 9 encE A xs) :
    Calls Try.prog 88 #[.slice A xs.length cap, .agg #[.int .u64 a.h, .int .u64 a.l, .bool a.v]] w fun e w' => e = .returned (.int .i64 (firE xs a)) ∧ Kept w w' :=
  callsIn_wide.1 (first_in 3 (Nat.le_refl _) A cap a xs hlen w hr)
end Go.Proofs.Ytapiffkeclnbbaa.Q
