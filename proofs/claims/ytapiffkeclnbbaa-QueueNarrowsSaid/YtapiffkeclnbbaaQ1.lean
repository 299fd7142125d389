import Derived.Test.YtapiffkeclnbbaaProg
import Derived.Below
import Derived.Deep.Draws
import Derived.Deep.AppendLies
import Derived.Maps.AppendAt
import Derived.OwnWalk
import Derived.Laws.MakeOwn
import Derived.Laws.OwnMore
import Derived.Deep.OwnRows
import Derived.Tactics
import Derived.Laws.Slices
import Derived.WalkKit
import Derived.KernelRfl
import Derived.RowKit3
import Derived.Deep.LoopGhost
import Derived.Deep.QuietTactic
import Derived.BigQuiet
import Derived.WideLaws
import Derived.Deep.DeepCutAuto
import Derived.Deep.CutBlock
import Derived.Deep.RegionHeld3
import Derived.Deep.RegionWith
import Derived.Deep.RegionLaw
import Derived.Laws.Rows
import Derived.ArgAppend
import Derived.OrdersHeld
import Derived.Laws.BitsLemmas
import Derived.Laws.StructEq
import Derived.RowKit
import Derived.Lib.Hide
import Derived.Lib.SliceRun
import Derived.StillTail
import Derived.RangeFuncNested
import Derived.RangeFuncBound
import Derived.RangeFuncCalls
import Derived.RangeFuncLeaves
import Derived.Shelf.Abstract
import Derived.Shelf.RegionOpen
import Derived.OwnWalkIn
import Derived.TacticsInMore
import Derived.LoopNIn
import Derived.LoopIn
import Derived.Test.YtapiffkeclnbbaaB0
import Derived.Test.YtapiffkeclnbbaaB1
import Derived.Test.YtapiffkeclnbbaaB2
import Derived.Test.YtapiffkeclnbbaaB3
import Derived.Test.YtapiffkeclnbbaaB4
import Derived.Test.YtapiffkeclnbbaaB5
import Derived.Test.YtapiffkeclnbbaaA1
import Derived.Test.YtapiffkeclnbbaaA2
import Derived.Test.YtapiffkeclnbbaaA3
import Derived.Test.YtapiffkeclnbbaaA4
import Derived.Test.YtapiffkeclnbbaaA5
set_option linter.unusedVariables false
set_option linter.unusedSimpArgs false
namespace Go.Proofs.Ytapiffkeclnbbaa.Q
open Go.RowKit Go.Shelf Go.Proofs.Ytapiffkeclnbbaa.B0 Go.Proofs.Ytapiffkeclnbbaa.A1 Go.Proofs.Ytapiffkeclnbbaa.A2
attribute [local go_sem] Oper.semAt_some

structure EntryV where
  a : AddrV
  x : RouteV
  stale : Bool
def encE (e : EntryV) : List Value := [.int .u64 e.a.h, .int .u64 e.a.l, .bool e.a.v, .int .u64 e.x.p.a.h, .int .u64 e.x.p.a.l, .bool e.x.p.a.v, .int .i64 e.x.p.n, .int .i64 e.x.hop, .bool e.stale]

/-- which of the first k entries have an address in their block -/
def hits (xs : List EntryV) (a : AddrV) (k : Nat) : List Nat := (List.range k).filter fun i => match xs[i]? with | some e => conP e.x.p a | none => false
theorem hits_succ (xs : List EntryV) (a : AddrV) (k : Nat) (hk : k < xs.length) : hits xs a (k + 1) = if conP xs[k].x.p a = true then hits xs a k ++ [k] else hits xs a k := by
  unfold hits
  rw [List.range_succ, List.filter_append]
  cases h : conP xs[k].x.p a <;> simp [List.getElem?_eq_getElem hk, h]

/-- blocks of S are as they were -/
structure KpS (S : Nat → Prop) (W W' : World) : Prop where
  size : W.heap.size ≤ W'.heap.size
  same : ∀ k, S k → W'.heap[k]? = W.heap[k]?
theorem KpS.refl (S : Nat → Prop) (W : World) : KpS S W W := ⟨Nat.le_refl _, fun _ _ => rfl⟩
theorem KpS.trans {S : Nat → Prop} {a b c : World} (h : KpS S a b) (k : KpS S b c) : KpS S a c := ⟨Nat.le_trans h.size k.size, fun i hi => (k.same i hi).trans (h.same i hi)⟩
theorem KpS.of_below {S : Nat → Prop} {B : Nat} {a b : World} (h : Below B a b) (hS : ∀ k, S k → k < B) : KpS S a b := ⟨h.size, fun k hk => h.block k (hS k hk)⟩
theorem KpS.blk {S : Nat → Prop} {a b : World} {g : Nat} {t : TypeId} {cs : Array Value} (h : KpS S a b) (hb : Blk a g t cs) (hg : S g) : Blk b g t cs := (h.same g hg).trans hb
theorem KpS.rd {S : Nat → Prop} {α : Type} {a b : World} {B sz : Nat} {enc : α → List Value} {A : Option Addr} {xs : List α} (h : KpS S a b) (hr : Rd a B sz enc A xs) (hB : ∀ k, k < B → S k) : Rd b B sz enc A xs :=
  hr.keep fun p hp => World.cell?_of_block (h.same p.block (hB _ hp))
theorem KpS.put {S : Nat → Prop} {W : World} {l : Nat} {o o' : Obj} (hl : W.heap[l]? = some o) (hS : ∀ k, S k → k < l) : KpS S W (W.putObj l o') :=
  ⟨by simp, fun k hk => World.putObj_heap_other (Nat.ne_of_lt (hS k hk))⟩

theorem hits_le (xs : List EntryV) (a : AddrV) (k : Nat) : (hits xs a k).length ≤ k := by
  unfold hits
  exact Nat.le_trans (List.length_filter_le _ _) (by simp)

theorem of_kept {β : Type} {J : β → World → Prop} {B : Nat} (hJ : AbidesFrom B J) {s : β} {W W' : World} (h : J s W) (hk : Below W.heap.size W W') : J s W' :=
  hJ s W W' none h ⟨hk.os, hk.tape, hk.output, hk.size, fun i hi _ => hk.block i hi⟩ (fun r e => by cases e)

set_option maxRecDepth 100000 in
set_option maxHeartbeats 2000000 in
theorem blocks_walk (n : Nat) (l Bl Ba n₀ : Nat) (A : Option Addr) (cap : Nat) (a : AddrV) (xs : List EntryV) (hlen : xs.length ≤ 9223372036854775807) (W : World) (S : Nat → Prop) (hSn : ∀ k, k < n₀ → S k) (hSa : S Ba) (hSW : ∀ k, S k → k < W.heap.size) (J Jx : List Nat → World → Prop)
    (hn : n₀ ≤ W.heap.size) (hJ : AbidesFrom W.heap.size J)
    (hY : ∀ pre x W, J pre W → pre.length < xs.length → YieldAt Fence.wide (n - 1) Try.prog l #[.int .i64 ((x : Nat) : Int)] W fun e W' =>
      (e = .returned (.bool true) ∧ J (pre ++ [x]) W' ∧ KpS S W W') ∨ (e = .returned (.bool false) ∧ Jx (pre ++ [x]) W'))
    (bl : Blk W Bl 24 #[.slice A xs.length cap]) (ba : Blk W Ba 34 #[.int .u64 a.h, .int .u64 a.l, .bool a.v]) (hr : Rd W n₀ 9 encE A xs) (h0 : J [] W) :
    CallsIn Fence.wide n Try.prog 161 #[.func (.yield l) #[] #[], .pointer (some ⟨Bl, 0, none⟩), .pointer (some ⟨Ba, 0, none⟩)] W fun e W' => (∃ v, e = .returned v) ∧
      ((∃ ys, ys = hits xs a xs.length ∧ J ys W') ∨ (∃ pre, (∃ k, k < xs.length ∧ conP (xs[k]?.elim ⟨⟨0, 0, false⟩, 0⟩ (·.x.p)) a = true ∧ pre = hits xs a k ++ [k]) ∧ Jx pre W')) := by
  have hu := Try.underlying48
  have hu2 := Try.underlying34
  have hu3 := Try.underlying36
  have hu4 := Try.underlying38
  refine callsIn_of_wp Try.func161 rfl trivial ?_ rfl
  simp only [Try.ntmps161, List.size_toArray, List.length_cons, List.length_nil, Nat.reduceAdd, Nat.reduceSub, Array.replicate_succ, Array.replicate_zero, List.push_toArray, List.append_toArray, List.nil_append, List.cons_append]
  have cl0 := bl.cell 0
  gi_wp2
  gi_loopw [8] (fun i wr => ∃ k : Nat, k ≤ xs.length ∧ i = .int .i64 k ∧ J (hits xs a k) wr ∧ KpS S W wr)
    (fun i _ => xs.length - (intOf i).toNat)
  case atStart => exact ⟨0, Nat.zero_le _, rfl, h0, KpS.refl _ _⟩
  case round =>
    obtain ⟨k, hk, rfl, hJs, hnx⟩ := hrel
    by_cases hlt : k < xs.length
    · obtain ⟨b, off, rfl, hb, hc⟩ := (hnx.rd hr hSn).get hlt
      obtain ⟨e, he⟩ : ∃ e, xs[k] = e := ⟨_, rfl⟩
      rw [he] at hc
      have hx : xs[k]? = some e := by rw [List.getElem?_eq_getElem hlt, he]
      have hsuc := hits_succ xs a k hlt
      rw [he] at hsuc
      have Hsuc := Lib.hid hsuc
      have Hx := Lib.hid hx
      have e0 := hc 0 _ rfl
      rw [Nat.add_zero] at e0
      have e1 := hc 1 _ rfl
      have e2 := hc 2 _ rfl
      have e3 := hc 3 _ rfl
      have e4 := hc 4 _ rfl
      have e5 := hc 5 _ rfl
      have e6 := hc 6 _ rfl
      have e7 := hc 7 _ rfl
      have e8 := hc 8 _ rfl
      have ba' := hnx.blk ba hSa
      have za := ba'.lt
      obtain ⟨ca, fa⟩ := ba'.facts
      clear hc he hx hsuc cl0
      have hJa : J (hits xs a k) (wr.alloc (.cells #[.int .u64 e.a.h, .int .u64 e.a.l, .bool e.a.v, .int .u64 e.x.p.a.h, .int .u64 e.x.p.a.l, .bool e.x.p.a.v, .int .i64 e.x.p.n, .int .i64 e.x.hop, .bool e.stale] 48)) := of_kept (fun s X Y row hs hg hr => hJ s X Y row hs hg (fun r e => hr r e)) hJs ((Below.refl _ _).alloc (Nat.le_refl _) _)
      have hpl : (hits xs a k).length < xs.length := Nat.lt_of_le_of_lt (hits_le xs a k) hlt
      have hn1 : n₀ ≤ wr.heap.size := Nat.le_trans hn hnx.size
      have hna : ∀ o, KpS S W (wr.alloc o) := fun o => hnx.trans (KpS.of_below ((Below.refl _ _).alloc (Nat.le_refl _) o) (fun k hk => Nat.lt_of_lt_of_le (hSW k hk) hnx.size))
      cases hc : conP e.x.p a with
      | true =>
        have Hc := Lib.hid hc
        clear hc
        gi_wp2_with fail
        refine ⟨trivial, (fun h => (by cases h)), ?_⟩
        refine (callsIn_wide.2 (prefix_Contains_is ⟨⟨_, _, _⟩, _⟩ ⟨_, _, _⟩ _ Hc.out)).mono ?_
        rintro e' w1 ⟨rfl, hb1⟩
        have hJ1 : J (hits xs a k) w1 := of_kept (fun s X Y row hs hg hr => hJ s X Y row hs hg (fun r e => hr r e)) hJa hb1.out
        have hB1 : KpS S W w1 := (hna _).trans (KpS.of_below hb1.out (fun k hk => Nat.lt_of_lt_of_le (hSW k hk) (hna _).size))
        clear hb1 hJa hna e0 e1 e2 e3 e4 e5 e6 e7 e8 ca fa
        obtain ⟨fn, tmps, assign, body, hy, hR⟩ := hY _ k w1 hJ1 hpl
        gi_wp2_with fail
        refine ⟨(fun h => (by cases h)), ?_⟩
        refine hR.mono ?_
        clear hR hy
        rintro e3 W3 (⟨rfl, hJ3, hk3⟩ | ⟨rfl, hJx3⟩)
        · gi_wp2_with fail
          go_roundw
          case rel => exact ⟨k + 1, by omega, by simp, by rw [Hsuc.out, if_pos Hc.out]; exact hJ3, hB1.trans hk3⟩
          case measure => simp [intOf]; omega
        · gi_wp2_with fail
          refine bodyPost_ret (results_none rfl _ _ _) rfl ?_
          exact ⟨⟨_, rfl⟩, .inr ⟨_, ⟨k, hlt, by rw [Hx.out]; exact Hc.out, rfl⟩, hJx3⟩⟩
      | false =>
        have Hc := Lib.hid hc
        clear hc
        gi_wp2_with fail
        refine ⟨trivial, (fun h => (by cases h)), ?_⟩
        refine (callsIn_wide.2 (prefix_Contains_is ⟨⟨_, _, _⟩, _⟩ ⟨_, _, _⟩ _ Hc.out)).mono ?_
        rintro e' w1 ⟨rfl, hb1⟩
        have hJ1 : J (hits xs a k) w1 := of_kept (fun s X Y row hs hg hr => hJ s X Y row hs hg (fun r e => hr r e)) hJa hb1.out
        have hB1 : KpS S W w1 := (hna _).trans (KpS.of_below hb1.out (fun k hk => Nat.lt_of_lt_of_le (hSW k hk) (hna _).size))
        clear hb1 hJa hna e0 e1 e2 e3 e4 e5 e6 e7 e8 ca fa
        gi_wp2_with fail
        refine ⟨(fun _ h => (by cases h)), ?_⟩
        gi_wp2_with fail
        go_roundw
        case rel => exact ⟨k + 1, by omega, by simp, by rw [Hsuc.out, if_neg (by rw [Hc.out]; simp)]; exact hJ1, hB1⟩
        case measure => simp [intOf]; omega
    · obtain rfl : k = xs.length := by omega
      gi_wp2
      go_end0
      exact ⟨⟨_, rfl⟩, .inl ⟨_, rfl, hJs⟩⟩
end Go.Proofs.Ytapiffkeclnbbaa.Q
