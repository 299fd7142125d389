import Derived.Test.YtapiffkeclnbbaaProg
import Derived.Below
import Derived.Deep.Draws
import Derived.Deep.AppendLies
import Derived.Maps.AppendAt
import Derived.OwnWalk
import Derived.Laws.MakeOwn
import Derived.Laws.OwnMore
import Derived.Deep.OwnRows
import Derived.Tactics
import Derived.Laws.Slices
import Derived.WalkKit
import Derived.KernelRfl
import Derived.RowKit3
import Derived.Deep.LoopGhost
import Derived.Deep.QuietTactic
import Derived.BigQuiet
import Derived.WideLaws
import Derived.Deep.DeepCutAuto
import Derived.Deep.CutBlock
import Derived.Deep.RegionHeld3
import Derived.Deep.RegionWith
import Derived.Deep.RegionLaw
import Derived.Laws.Rows
import Derived.ArgAppend
import Derived.OrdersHeld
import Derived.Laws.BitsLemmas
import Derived.Laws.StructEq
import Derived.RowKit
import Derived.Lib.Hide
import Derived.Lib.SliceRun
import Derived.StillTail
import Derived.Test.YtapiffkeclnbbaaB0
import Derived.Test.YtapiffkeclnbbaaB1
import Derived.Test.YtapiffkeclnbbaaB2
import Derived.Test.YtapiffkeclnbbaaB3
import Derived.Test.YtapiffkeclnbbaaB4
import Derived.Test.YtapiffkeclnbbaaB5
import Derived.Test.YtapiffkeclnbbaaB6
import Derived.Test.YtapiffkeclnbbaaB7
import Derived.Test.YtapiffkeclnbbaaB8
import Derived.Test.YtapiffkeclnbbaaA1
import Derived.Test.YtapiffkeclnbbaaA2
import Derived.Test.YtapiffkeclnbbaaA3
import Derived.Test.YtapiffkeclnbbaaA4
import Derived.Test.YtapiffkeclnbbaaA5
import Derived.Test.YtapiffkeclnbbaaA6
import Derived.Test.YtapiffkeclnbbaaQ1
import Derived.Test.YtapiffkeclnbbaaQ2
import Derived.Test.YtapiffkeclnbbaaQ3
import Derived.Test.YtapiffkeclnbbaaQ4
import Derived.Test.YtapiffkeclnbbaaQ5
import Derived.Test.YtapiffkeclnbbaaQ6
import Derived.Test.YtapiffkeclnbbaaQ7
import Derived.Test.YtapiffkeclnbbaaQ8
import Derived.Test.YtapiffkeclnbbaaQ9
import Derived.Test.YtapiffkeclnbbaaQ10
import Derived.Test.YtapiffkeclnbbaaQ11
import Derived.Test.YtapiffkeclnbbaaQ12
import Derived.Test.YtapiffkeclnbbaaQ13
import Derived.Test.YtapiffkeclnbbaaQ15
/-! kedgeref14.Same of two queues that are the same. -/
set_option linter.unusedVariables false
set_option linter.unusedSimpArgs false
namespace Go.Proofs.Ytapiffkeclnbbaa.Q
open Go.RowKit Go.Proofs.Ytapiffkeclnbbaa.B0 Go.Proofs.Ytapiffkeclnbbaa.A2
attribute [local irreducible] wpHq
theorem eqA51 (d : Nat) (w : World) (x0 y0 : Int) (x1 y1 : Int) (x2 y2 : Bool) (x3 y3 : Int) (x4 y4 : Int) (x5 y5 : Bool) (x6 y6 : Int) (x7 y7 : Int) (x8 y8 : Bool) :
    (Op.equalIn (d + 5) 51 (.agg #[.int .u64 x0, .int .u64 x1, .bool x2, .int .u64 x3, .int .u64 x4, .bool x5, .int .i64 x6, .int .i64 x7, .bool x8]) (.agg #[.int .u64 y0, .int .u64 y1, .bool y2, .int .u64 y3, .int .u64 y4, .bool y5, .int .i64 y6, .int .i64 y7, .bool y8])).run Try.prog w
      = .ok ((x0 == y0 && (x1 == y1 && (x2 == y2))) && ((((x3 == y3 && (x4 == y4 && (x5 == y5))) && (x6 == y6)) && (x7 == y7)) && (x8 == y8))) w := by
  refine eqA_of Try.underlying51 (by kernel_rfl) ?_
  refine eqf_cons (by rfl) (by go_simp) (by go_simp) (eqA34 (d + 2) w _ _ _ _ _ _) ?_
  refine eqf_cons (by rfl) (by go_simp) (by go_simp) (eqA38 (d + 0) w _ _ _ _ _ _ _ _ _ _) ?_
  exact eqf_last (by rfl) (by go_simp; rfl) (by go_simp; rfl) (by go_simp)
attribute [local go_sem high] eqA34 eqA36 eqA38 eqA51
set_option maxHeartbeats 1000000 in
set_option maxRecDepth 100000 in
theorem ref14_Same (A1 A2 : Option Addr) (cap1 cap2 : Nat) (xs : List EntryV) (bd : Int) (w : World) (hr1 : Rd w w.heap.size 9 encE A1 xs) (hc1 : xs.length ≤ cap1) (hr2 : Rd w w.heap.size 9 encE A2 xs) (hc2 : xs.length ≤ cap2) (hlen : xs.length ≤ 1024) :
    Calls Try.prog 28 #[.agg #[.slice A1 xs.length cap1, .int .i64 bd], .agg #[.slice A2 xs.length cap2, .int .i64 bd]] w fun e w' => e = .returned (.bool true) ∧ Kept w w' := by
  have hu := Try.underlying30
  have hu2 := Try.underlying34
  have hu3 := Try.underlying38
  have hu5 := Try.underlying51
  go_enter Try.func28, Try.ntmps28
  go_wp2_with fail
  go_loopw [5] (fun i wr => ∃ (k : Nat), k ≤ xs.length ∧ i = .int .i64 k ∧ Blk wr w.heap.size 30 #[.slice A1 xs.length cap1, .int .i64 bd] ∧ Blk wr (w.heap.size + 1) 30 #[.slice A2 xs.length cap2, .int .i64 bd] ∧ Kept w wr)
    (fun i _ => xs.length - (intOf i).toNat)
  case atStart => exact ⟨0, Nat.zero_le _, rfl, (Blk.new _ _ _).alloc _, Blk.new2 _ _ _ _, ((Kept.refl w).alloc _).alloc _⟩
  case round =>
    obtain ⟨k, hk, rfl, B0, B1, hK⟩ := hrel
    by_cases hlt : k < xs.length
    · obtain ⟨b, off, rfl, hb, hcs⟩ := hr1.get hlt
      obtain ⟨b', off', rfl, hb', hds⟩ := hr2.get hlt
      obtain ⟨e, he⟩ : ∃ e, xs[k] = e := ⟨_, rfl⟩
      rw [he] at hcs hds
      clear he
      have hk0 : (0 : Int) ≤ (k : Int) := by omega
      have hkl : (k : Int) < (xs.length : Int) := by omega
      have hkw : IntKind.i64.wrap ((k : Int) + 1) = (k : Int) + 1 := by simp [IntKind.wrap, IntKind.bits, IntKind.signed]; omega
      obtain ⟨c0, f0⟩ := B0.facts
      go_wp2_with fail
      clear c0 f0
      have hS : Steady (fun W' => Blk W' w.heap.size 30 #[.slice (some ⟨b, off, none⟩) xs.length cap1, .int .i64 bd] ∧ Blk W' (w.heap.size + 1) 30 #[.slice (some ⟨b', off', none⟩) xs.length cap2, .int .i64 bd] ∧ Kept w W') := fun w1 w2 h hb => ⟨h.1.call hb, h.2.1.call hb, h.2.2.call hb⟩
      refine wp_region_h 10 [(0, 0), (1, 0), (2, 0), (3, 0), (4, 0), (5, 0), (6, 0), (7, 0), (8, 0), (9, 0)] [] 0 (fun W' => Blk W' w.heap.size 30 #[.slice (some ⟨b, off, none⟩) xs.length cap1, .int .i64 bd] ∧ Blk W' (w.heap.size + 1) 30 #[.slice (some ⟨b', off', none⟩) xs.length cap2, .int .i64 bd] ∧ Kept w W') (by kernel_rfl) (by kernel_rfl) hS (fun _ _ => Nat.zero_le _) ⟨B0.drew, B1.drew, hK.drew⟩ ?_
      simp only [List.map_cons, List.map_nil, List.getElem?_toArray, List.getElem?_cons_succ, List.getElem?_cons_zero]
      clear B0 B1
      repeat (first
        | (apply h_val; rfl; (intro W hC; obtain ⟨b0, b1, hk⟩ := hC; have k0 := b0.cell; have k1 := b1.cell; have cc := fun j u (h : (encE e)[j]? = some u) => (hk.out.cell (p := ⟨b, off + k * 9 + j, none⟩) hb).trans (hcs j u h); have dd := fun j u (h : (encE e)[j]? = some u) => (hk.out.cell (p := ⟨b', off' + k * 9 + j, none⟩) hb').trans (hds j u h); have e0 := cc 0 _ rfl; have d0 := dd 0 _ rfl; have e1 := cc 1 _ rfl; have d1 := dd 1 _ rfl; have e2 := cc 2 _ rfl; have d2 := dd 2 _ rfl; have e3 := cc 3 _ rfl; have d3 := dd 3 _ rfl; have e4 := cc 4 _ rfl; have d4 := dd 4 _ rfl; have e5 := cc 5 _ rfl; have d5 := dd 5 _ rfl; have e6 := cc 6 _ rfl; have d6 := dd 6 _ rfl; have e7 := cc 7 _ rfl; have d7 := dd 7 _ rfl; have e8 := cc 8 _ rfl; have d8 := dd 8 _ rfl; rw [Nat.add_zero] at e0 d0; clear b0 b1 hk cc dd; go_simp; rfl); go_simp))
      refine h_end fun w9 hC => ?_
      obtain ⟨B0, B1, hK⟩ := hC
      go_wp2_with fail
      exact ⟨⟨k + 1, by omega, by simp, B0, B1, hK⟩, by simp [intOf]; omega⟩
    · have d9 : decide ((k : Int) < (xs.length : Int)) = false := decide_eq_false (by omega)
      obtain ⟨c0, f0⟩ := B0.facts
      go_wp2_with fail
      go_ret
      exact ⟨rfl, hK⟩
end Go.Proofs.Ytapiffkeclnbbaa.Q
