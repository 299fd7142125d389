import Derived.Test.YtapiffkeclnbbaaProg
import Derived.Below
import Derived.Deep.Draws
import Derived.Deep.AppendLies
import Derived.Maps.AppendAt
import Derived.OwnWalk
import Derived.Laws.MakeOwn
import Derived.Laws.OwnMore
import Derived.Deep.OwnRows
import Derived.Tactics
import Derived.Laws.Slices
import Derived.WalkKit
import Derived.KernelRfl
import Derived.RowKit3
import Derived.Deep.LoopGhost
import Derived.Deep.QuietTactic
import Derived.BigQuiet
import Derived.WideLaws
import Derived.Deep.DeepCutAuto
import Derived.Deep.CutBlock
import Derived.Deep.RegionHeld3
import Derived.Deep.RegionWith
import Derived.Deep.RegionLaw
import Derived.Laws.Rows
import Derived.ArgAppend
import Derived.OrdersHeld
import Derived.Laws.BitsLemmas
import Derived.Laws.StructEq
import Derived.RowKit
import Derived.Lib.Hide
import Derived.Lib.SliceRun
import Derived.StillTail
import Derived.Test.YtapiffkeclnbbaaB0
import Derived.Test.YtapiffkeclnbbaaB1
import Derived.Test.YtapiffkeclnbbaaB2
import Derived.Test.YtapiffkeclnbbaaB3
import Derived.Test.YtapiffkeclnbbaaB4
import Derived.Test.YtapiffkeclnbbaaB5
import Derived.Test.YtapiffkeclnbbaaA1
import Derived.Test.YtapiffkeclnbbaaA2
import Derived.Test.YtapiffkeclnbbaaA3
import Derived.Test.YtapiffkeclnbbaaA4
import Derived.Test.YtapiffkeclnbbaaA5
import Derived.Test.YtapiffkeclnbbaaQ1
import Derived.Test.YtapiffkeclnbbaaQ2
set_option linter.unusedVariables false
set_option linter.unusedSimpArgs false
namespace Go.Proofs.Ytapiffkeclnbbaa.Q
open Go.RowKit Go.Proofs.Ytapiffkeclnbbaa.B0 Go.Proofs.Ytapiffkeclnbbaa.A1 Go.Proofs.Ytapiffkeclnbbaa.A2
attribute [local go_sem] max2_mx min2_mn maxOf2 minOf2 minOf3
attribute [local go_sem high] eqA34 eqA36 eqA38
attribute [local irreducible] wpQuiet

theorem nand4 {a b c d : Bool} (h : ((a && (b && c)) && d) = false) : ((!a || (!b || !c)) || !d) = true := by
  revert h; cases a <;> cases b <;> cases c <;> cases d <;> simp
theorem queue_first' (A : Option Addr) (n cap : Nat) (a : AddrV) (xs : List EntryV) (hn : xs.length = n) (hlen : n ≤ 9223372036854775807) (w : World) (hr : Rd w w.heap.size 9 encE A xs) :
    Calls Try.prog 88 #[.slice A n cap, .agg #[.int .u64 a.h, .int .u64 a.l, .bool a.v]] w fun e w' => e = .returned (.int .i64 (firE xs a)) ∧ Kept w w' := by
  subst hn
  exact queue_first A cap a xs hlen w hr
theorem queue_fits_is {b : Bool} (a : AddrV) (x : RouteV) (w : World) (h : fitE a x = b) : Calls Try.prog 89 #[.agg #[.int .u64 a.h, .int .u64 a.l, .bool a.v], .agg #[.int .u64 x.p.a.h, .int .u64 x.p.a.l, .bool x.p.a.v, .int .i64 x.p.n, .int .i64 x.hop]] w fun e w' => e = .returned (.bool b) ∧ Kept w w' := h ▸ queue_fits a x w

/-- may entry number k be, behind those ahead of it? -/
def okE (xs : List EntryV) (k : Nat) (e : EntryV) : Bool := fitE e.a e.x && ((!e.stale || eqP e.x.p (whoP e.a)) && (firE (xs.take k) e.a == -1))
def allE (xs : List EntryV) (k : Nat) : Bool := (List.range k).all fun i => match xs[i]? with | some e => okE xs i e | none => true
theorem allE_succ {xs : List EntryV} {k : Nat} {e : EntryV} (hx : xs[k]? = some e) : allE xs (k + 1) = (allE xs k && okE xs k e) := by
  unfold allE
  rw [List.range_succ, List.all_append]
  simp [hx]
theorem allE_false {xs : List EntryV} {k : Nat} {e : EntryV} (hx : xs[k]? = some e) (h : okE xs k e = false) : allE xs xs.length = false := by
  have hk : k < xs.length := (List.getElem?_eq_some_iff.1 hx).1
  unfold allE
  rw [List.all_eq_false]
  exact ⟨k, List.mem_range.2 hk, by simp [hx, h]⟩
/-- may a queue be? -/
def saneQ (xs : List EntryV) (b : Int) : Bool := decide (0 ≤ b) && (decide (b ≤ 1024) && (decide ((xs.length : Int) ≤ b) && allE xs xs.length))

set_option maxHeartbeats 2000000 in
set_option maxRecDepth 100000 in
theorem queue_Sane_good (A : Option Addr) (cap : Nat) (xs : List EntryV) (bd : Int) (w : World) (hr : Rd w w.heap.size 9 encE A xs) (hcap : xs.length ≤ cap) (hlen : xs.length ≤ 9223372036854775807) (h0 : 0 ≤ bd) (h1 : bd ≤ 1024) (h2 : (xs.length : Int) ≤ bd) :
    Calls Try.prog 30 #[.agg #[.slice A xs.length cap, .int .i64 bd]] w fun e w' => e = .returned (.bool (allE xs xs.length)) ∧ Kept w w' := by
  have hu := Try.underlying26
  have hu2 := Try.underlying48
  have hu3 := Try.underlying34
  have hu4 := Try.underlying38
  have hu5 := Try.underlying36
  have d0 : decide (bd < 0) = false := decide_eq_false (by omega)
  have d1 : decide (1024 < bd) = false := decide_eq_false (by omega)
  have d2 : decide (bd < (xs.length : Int)) = false := decide_eq_false (by omega)
  go_enter Try.func30, Try.ntmps30
  go_wp2_with fail
  go_loopw [24] (fun i wr => ∃ k : Nat, k ≤ xs.length ∧ i = .int .i64 k ∧ allE xs k = true ∧ Kept w wr ∧ Blk wr w.heap.size 26 #[.slice A xs.length cap, .int .i64 bd])
    (fun i _ => xs.length - (intOf i).toNat)
  case atStart => exact ⟨0, Nat.zero_le _, rfl, rfl, (Kept.refl w).alloc _, Blk.new _ _ _⟩
  case round =>
    obtain ⟨k, hk, rfl, hall, hK, B0⟩ := hrel
    by_cases hlt : k < xs.length
    · obtain ⟨b, off, rfl, hb, hc⟩ := (hr.below hK.out).get hlt
      obtain ⟨e, he⟩ : ∃ e, xs[k] = e := ⟨_, rfl⟩
      rw [he] at hc
      have Hx : Hid (xs[k]? = some e) := Lib.hid (by rw [List.getElem?_eq_getElem hlt, he])
      have Hall := Lib.hid hall
      have e0 := hc 0 _ rfl
      rw [Nat.add_zero] at e0
      have e1 := hc 1 _ rfl
      have e2 := hc 2 _ rfl
      have e3 := hc 3 _ rfl
      have e4 := hc 4 _ rfl
      have e5 := hc 5 _ rfl
      have e6 := hc 6 _ rfl
      have e7 := hc 7 _ rfl
      have e8 := hc 8 _ rfl
      clear hc he hall
      have hk0 : (0 : Int) ≤ (k : Int) := by omega
      have hkc : (k : Int) ≤ (cap : Int) := by omega
      have hkl : (k : Int) ≤ (xs.length : Int) := by omega
      have z0 := B0.lt
      obtain ⟨c0, f0⟩ := B0.facts
      cases hfit : fitE e.a e.x with
      | false =>
        have Hres : Hid (allE xs xs.length = false) := Lib.hid (allE_false Hx.out (by simp [okE, hfit]))
        have Hfit := Lib.hid hfit
        clear hfit
        go_wp2_with fail
        obtain ⟨W, hW⟩ : ∃ W, wr.alloc (.cells #[.int .u64 e.a.h, .int .u64 e.a.l, .bool e.a.v, .int .u64 e.x.p.a.h, .int .u64 e.x.p.a.l, .bool e.x.p.a.v, .int .i64 e.x.p.n, .int .i64 e.x.hop, .bool e.stale] 48) = W := ⟨_, rfl⟩
        have BE : Blk W wr.heap.size 48 #[.int .u64 e.a.h, .int .u64 e.a.l, .bool e.a.v, .int .u64 e.x.p.a.h, .int .u64 e.x.p.a.l, .bool e.x.p.a.v, .int .i64 e.x.p.n, .int .i64 e.x.hop, .bool e.stale] := hW ▸ Blk.new _ _ _
        have B0' : Blk W w.heap.size 26 #[.slice (some ⟨b, off, none⟩) xs.length cap, .int .i64 bd] := hW ▸ B0.alloc _
        have hK' : Kept w W := hW ▸ hK.alloc _
        rw [hW]
        clear hW hK B0 c0 f0 e0 e1 e2 e3 e4 e5 e6 e7 e8
        refine wp_region_quiet (C := fun W' => Blk W' (w.heap.size) 26 #[.slice (some ⟨b, off, none⟩) xs.length cap, .int .i64 bd] ∧ Blk W' (wr.heap.size) 48 #[.int .u64 e.a.h, .int .u64 e.a.l, .bool e.a.v, .int .u64 e.x.p.a.h, .int .u64 e.x.p.a.l, .bool e.x.p.a.v, .int .i64 e.x.p.n, .int .i64 e.x.hop, .bool e.stale] ∧ Kept w W') (by kernel_rfl) (by kernel_rfl) ⟨B0'.drew, BE.drew, hK'.drew⟩ ?_
        go_simp
        repeat (first
          | (apply q_val; rfl; (intro W hC; obtain ⟨b0, b1, hk⟩ := hC; have k0 := b0.cell; have k1 := b1.cell; clear b0 b1 hk; go_simp; rfl); go_simp)
          | (refine q_off rfl ?_; go_simp)
          | (apply q_call (f := 89); rfl; (intro W hC; go_simp; rfl); (intro W hC; (with_reducible refine (queue_fits_is ⟨_, _, _⟩ ⟨⟨⟨_, _, _⟩, _⟩, _⟩ _ Hfit.out).mono ?_); rintro e w1 ⟨rfl, hb1⟩; refine ⟨?_, hC.1.call hb1.out, hC.2.1.call hb1.out, hC.2.2.call hb1.out⟩; rfl); go_simp)
          | (apply q_call (f := 94); rfl; (intro W hC; go_simp; rfl); (intro W hC; (with_reducible refine (queue_whole ⟨_, _, _⟩ _).mono ?_); rintro e w1 ⟨rfl, hb1⟩; refine ⟨?_, hC.1.call hb1.out, hC.2.1.call hb1.out, hC.2.2.call hb1.out⟩; rfl); go_simp)
          | (apply q_call (f := 88); rfl; (intro W hC; go_simp; rfl); (intro W hC; (with_reducible refine (queue_first' (some ⟨b, off, none⟩) k cap ⟨_, _, _⟩ (xs.take k) (by simp; omega) (by omega) _ (((hr.take k).below hC.2.2.out).more hC.2.2.size)).mono ?_); rintro e w1 ⟨rfl, hb1⟩; refine ⟨?_, hC.1.call hb1.out, hC.2.1.call hb1.out, hC.2.2.call hb1.out⟩; rfl); go_simp))
        refine q_end ?_
        intro W1 B0_ B1_ hK1
        go_wp2_with fail
        go_ret
        exact ⟨by simp [Hres.out], hK1⟩
      | true =>
        cases hs : e.stale with
        | false =>
          cases hf : (firE (xs.take k) e.a == -1) with
          | false =>
            have Hres : Hid (allE xs xs.length = false) := Lib.hid (allE_false Hx.out (by simp [okE, hfit, hs, hf]))
            have Hfit := Lib.hid hfit
            clear hfit
            have Hs := Lib.hid hs
            have hf1 : (firE (xs.take k) e.a == -1) = false := hf
            have hf2 : (firE (xs.take k) e.a != -1) = true := by simp [bne, hf]
            clear hf
            go_wp2_with fail
            obtain ⟨W, hW⟩ : ∃ W, wr.alloc (.cells #[.int .u64 e.a.h, .int .u64 e.a.l, .bool e.a.v, .int .u64 e.x.p.a.h, .int .u64 e.x.p.a.l, .bool e.x.p.a.v, .int .i64 e.x.p.n, .int .i64 e.x.hop, .bool false] 48) = W := ⟨_, rfl⟩
            have BE : Blk W wr.heap.size 48 #[.int .u64 e.a.h, .int .u64 e.a.l, .bool e.a.v, .int .u64 e.x.p.a.h, .int .u64 e.x.p.a.l, .bool e.x.p.a.v, .int .i64 e.x.p.n, .int .i64 e.x.hop, .bool false] := hW ▸ Blk.new _ _ _
            have B0' : Blk W w.heap.size 26 #[.slice (some ⟨b, off, none⟩) xs.length cap, .int .i64 bd] := hW ▸ B0.alloc _
            have hK' : Kept w W := hW ▸ hK.alloc _
            rw [hW]
            clear hW hK B0 c0 f0 e0 e1 e2 e3 e4 e5 e6 e7 e8
            refine wp_region_quiet (C := fun W' => Blk W' (w.heap.size) 26 #[.slice (some ⟨b, off, none⟩) xs.length cap, .int .i64 bd] ∧ Blk W' (wr.heap.size) 48 #[.int .u64 e.a.h, .int .u64 e.a.l, .bool e.a.v, .int .u64 e.x.p.a.h, .int .u64 e.x.p.a.l, .bool e.x.p.a.v, .int .i64 e.x.p.n, .int .i64 e.x.hop, .bool false] ∧ Kept w W') (by kernel_rfl) (by kernel_rfl) ⟨B0'.drew, BE.drew, hK'.drew⟩ ?_
            go_simp
            repeat (first
              | (apply q_val; rfl; (intro W hC; obtain ⟨b0, b1, hk⟩ := hC; have k0 := b0.cell; have k1 := b1.cell; clear b0 b1 hk; go_simp; rfl); go_simp)
              | (refine q_off rfl ?_; go_simp)
              | (apply q_call (f := 89); rfl; (intro W hC; go_simp; rfl); (intro W hC; (with_reducible refine (queue_fits_is ⟨_, _, _⟩ ⟨⟨⟨_, _, _⟩, _⟩, _⟩ _ Hfit.out).mono ?_); rintro e w1 ⟨rfl, hb1⟩; refine ⟨?_, hC.1.call hb1.out, hC.2.1.call hb1.out, hC.2.2.call hb1.out⟩; rfl); go_simp)
              | (apply q_call (f := 94); rfl; (intro W hC; go_simp; rfl); (intro W hC; (with_reducible refine (queue_whole ⟨_, _, _⟩ _).mono ?_); rintro e w1 ⟨rfl, hb1⟩; refine ⟨?_, hC.1.call hb1.out, hC.2.1.call hb1.out, hC.2.2.call hb1.out⟩; rfl); go_simp)
              | (apply q_call (f := 88); rfl; (intro W hC; go_simp; rfl); (intro W hC; (with_reducible refine (queue_first' (some ⟨b, off, none⟩) k cap ⟨_, _, _⟩ (xs.take k) (by simp; omega) (by omega) _ (((hr.take k).below hC.2.2.out).more hC.2.2.size)).mono ?_); rintro e w1 ⟨rfl, hb1⟩; refine ⟨?_, hC.1.call hb1.out, hC.2.1.call hb1.out, hC.2.2.call hb1.out⟩; rfl); go_simp))
            refine q_end ?_
            intro W1 B0_ B1_ hK1
            go_wp2_with fail
            go_ret
            exact ⟨by simp [Hres.out], hK1⟩
          | true =>
            have Hres : Hid (okE xs k e = true) := Lib.hid ((by simp [okE, hfit, hs, hf]))
            have Hfit := Lib.hid hfit
            clear hfit
            have Hs := Lib.hid hs
            have hf1 : (firE (xs.take k) e.a == -1) = true := hf
            have hf2 : (firE (xs.take k) e.a != -1) = false := by simp [bne, hf]
            clear hf
            go_wp2_with fail
            obtain ⟨W, hW⟩ : ∃ W, wr.alloc (.cells #[.int .u64 e.a.h, .int .u64 e.a.l, .bool e.a.v, .int .u64 e.x.p.a.h, .int .u64 e.x.p.a.l, .bool e.x.p.a.v, .int .i64 e.x.p.n, .int .i64 e.x.hop, .bool false] 48) = W := ⟨_, rfl⟩
            have BE : Blk W wr.heap.size 48 #[.int .u64 e.a.h, .int .u64 e.a.l, .bool e.a.v, .int .u64 e.x.p.a.h, .int .u64 e.x.p.a.l, .bool e.x.p.a.v, .int .i64 e.x.p.n, .int .i64 e.x.hop, .bool false] := hW ▸ Blk.new _ _ _
            have B0' : Blk W w.heap.size 26 #[.slice (some ⟨b, off, none⟩) xs.length cap, .int .i64 bd] := hW ▸ B0.alloc _
            have hK' : Kept w W := hW ▸ hK.alloc _
            rw [hW]
            clear hW hK B0 c0 f0 e0 e1 e2 e3 e4 e5 e6 e7 e8
            refine wp_region_quiet (C := fun W' => Blk W' (w.heap.size) 26 #[.slice (some ⟨b, off, none⟩) xs.length cap, .int .i64 bd] ∧ Blk W' (wr.heap.size) 48 #[.int .u64 e.a.h, .int .u64 e.a.l, .bool e.a.v, .int .u64 e.x.p.a.h, .int .u64 e.x.p.a.l, .bool e.x.p.a.v, .int .i64 e.x.p.n, .int .i64 e.x.hop, .bool false] ∧ Kept w W') (by kernel_rfl) (by kernel_rfl) ⟨B0'.drew, BE.drew, hK'.drew⟩ ?_
            go_simp
            repeat (first
              | (apply q_val; rfl; (intro W hC; obtain ⟨b0, b1, hk⟩ := hC; have k0 := b0.cell; have k1 := b1.cell; clear b0 b1 hk; go_simp; rfl); go_simp)
              | (refine q_off rfl ?_; go_simp)
              | (apply q_call (f := 89); rfl; (intro W hC; go_simp; rfl); (intro W hC; (with_reducible refine (queue_fits_is ⟨_, _, _⟩ ⟨⟨⟨_, _, _⟩, _⟩, _⟩ _ Hfit.out).mono ?_); rintro e w1 ⟨rfl, hb1⟩; refine ⟨?_, hC.1.call hb1.out, hC.2.1.call hb1.out, hC.2.2.call hb1.out⟩; rfl); go_simp)
              | (apply q_call (f := 94); rfl; (intro W hC; go_simp; rfl); (intro W hC; (with_reducible refine (queue_whole ⟨_, _, _⟩ _).mono ?_); rintro e w1 ⟨rfl, hb1⟩; refine ⟨?_, hC.1.call hb1.out, hC.2.1.call hb1.out, hC.2.2.call hb1.out⟩; rfl); go_simp)
              | (apply q_call (f := 88); rfl; (intro W hC; go_simp; rfl); (intro W hC; (with_reducible refine (queue_first' (some ⟨b, off, none⟩) k cap ⟨_, _, _⟩ (xs.take k) (by simp; omega) (by omega) _ (((hr.take k).below hC.2.2.out).more hC.2.2.size)).mono ?_); rintro e w1 ⟨rfl, hb1⟩; refine ⟨?_, hC.1.call hb1.out, hC.2.1.call hb1.out, hC.2.2.call hb1.out⟩; rfl); go_simp))
            refine q_end ?_
            intro W1 B0_ B1_ hK1
            go_wp2_with fail
            go_roundw
            case rel => exact ⟨k + 1, by omega, by simp, by rw [allE_succ Hx.out, Hres.out, Hall.out]; rfl, hK1, B0_⟩
            case measure => simp [intOf]; omega
        | true =>
          cases hw : eqP e.x.p (whoP e.a) with
          | false =>
            have hw1 : (!(e.x.p.a.h == (whoP e.a).a.h) || (!(e.x.p.a.l == (whoP e.a).a.l) || !(e.x.p.a.v == (whoP e.a).a.v)) || !(e.x.p.n == (whoP e.a).n)) = true := nand4 hw
            have Hres : Hid (allE xs xs.length = false) := Lib.hid (allE_false Hx.out (by simp [okE, hfit, hs, hw]))
            have Hfit := Lib.hid hfit
            clear hfit
            have Hs := Lib.hid hs
            clear hw
            go_wp2_with fail
            obtain ⟨W, hW⟩ : ∃ W, wr.alloc (.cells #[.int .u64 e.a.h, .int .u64 e.a.l, .bool e.a.v, .int .u64 e.x.p.a.h, .int .u64 e.x.p.a.l, .bool e.x.p.a.v, .int .i64 e.x.p.n, .int .i64 e.x.hop, .bool true] 48) = W := ⟨_, rfl⟩
            have BE : Blk W wr.heap.size 48 #[.int .u64 e.a.h, .int .u64 e.a.l, .bool e.a.v, .int .u64 e.x.p.a.h, .int .u64 e.x.p.a.l, .bool e.x.p.a.v, .int .i64 e.x.p.n, .int .i64 e.x.hop, .bool true] := hW ▸ Blk.new _ _ _
            have B0' : Blk W w.heap.size 26 #[.slice (some ⟨b, off, none⟩) xs.length cap, .int .i64 bd] := hW ▸ B0.alloc _
            have hK' : Kept w W := hW ▸ hK.alloc _
            rw [hW]
            clear hW hK B0 c0 f0 e0 e1 e2 e3 e4 e5 e6 e7 e8
            refine wp_region_quiet (C := fun W' => Blk W' (w.heap.size) 26 #[.slice (some ⟨b, off, none⟩) xs.length cap, .int .i64 bd] ∧ Blk W' (wr.heap.size) 48 #[.int .u64 e.a.h, .int .u64 e.a.l, .bool e.a.v, .int .u64 e.x.p.a.h, .int .u64 e.x.p.a.l, .bool e.x.p.a.v, .int .i64 e.x.p.n, .int .i64 e.x.hop, .bool true] ∧ Kept w W') (by kernel_rfl) (by kernel_rfl) ⟨B0'.drew, BE.drew, hK'.drew⟩ ?_
            go_simp
            repeat (first
              | (apply q_val; rfl; (intro W hC; obtain ⟨b0, b1, hk⟩ := hC; have k0 := b0.cell; have k1 := b1.cell; clear b0 b1 hk; go_simp; rfl); go_simp)
              | (refine q_off rfl ?_; go_simp)
              | (apply q_call (f := 89); rfl; (intro W hC; go_simp; rfl); (intro W hC; (with_reducible refine (queue_fits_is ⟨_, _, _⟩ ⟨⟨⟨_, _, _⟩, _⟩, _⟩ _ Hfit.out).mono ?_); rintro e w1 ⟨rfl, hb1⟩; refine ⟨?_, hC.1.call hb1.out, hC.2.1.call hb1.out, hC.2.2.call hb1.out⟩; rfl); go_simp)
              | (apply q_call (f := 94); rfl; (intro W hC; go_simp; rfl); (intro W hC; (with_reducible refine (queue_whole ⟨_, _, _⟩ _).mono ?_); rintro e w1 ⟨rfl, hb1⟩; refine ⟨?_, hC.1.call hb1.out, hC.2.1.call hb1.out, hC.2.2.call hb1.out⟩; rfl); go_simp)
              | (apply q_call (f := 88); rfl; (intro W hC; go_simp; rfl); (intro W hC; (with_reducible refine (queue_first' (some ⟨b, off, none⟩) k cap ⟨_, _, _⟩ (xs.take k) (by simp; omega) (by omega) _ (((hr.take k).below hC.2.2.out).more hC.2.2.size)).mono ?_); rintro e w1 ⟨rfl, hb1⟩; refine ⟨?_, hC.1.call hb1.out, hC.2.1.call hb1.out, hC.2.2.call hb1.out⟩; rfl); go_simp))
            refine q_end ?_
            intro W1 B0_ B1_ hK1
            go_wp2_with fail
            go_ret
            exact ⟨by simp [Hres.out], hK1⟩
          | true =>
            have hw1 := hw
            simp only [eqP, Bool.and_eq_true] at hw1
            obtain ⟨⟨hw1, hw2, hw3⟩, hw4⟩ := hw1
            have Hw := Lib.hid hw
            cases hf : (firE (xs.take k) e.a == -1) with
            | false =>
              have Hres : Hid (allE xs xs.length = false) := Lib.hid (allE_false Hx.out (by simp [okE, hfit, hs, hf, hw]))
              have Hfit := Lib.hid hfit
              clear hfit
              have Hs := Lib.hid hs
              have hf1 : (firE (xs.take k) e.a == -1) = false := hf
              have hf2 : (firE (xs.take k) e.a != -1) = true := by simp [bne, hf]
              clear hf hw
              go_wp2_with fail
              obtain ⟨W, hW⟩ : ∃ W, wr.alloc (.cells #[.int .u64 e.a.h, .int .u64 e.a.l, .bool e.a.v, .int .u64 e.x.p.a.h, .int .u64 e.x.p.a.l, .bool e.x.p.a.v, .int .i64 e.x.p.n, .int .i64 e.x.hop, .bool true] 48) = W := ⟨_, rfl⟩
              have BE : Blk W wr.heap.size 48 #[.int .u64 e.a.h, .int .u64 e.a.l, .bool e.a.v, .int .u64 e.x.p.a.h, .int .u64 e.x.p.a.l, .bool e.x.p.a.v, .int .i64 e.x.p.n, .int .i64 e.x.hop, .bool true] := hW ▸ Blk.new _ _ _
              have B0' : Blk W w.heap.size 26 #[.slice (some ⟨b, off, none⟩) xs.length cap, .int .i64 bd] := hW ▸ B0.alloc _
              have hK' : Kept w W := hW ▸ hK.alloc _
              rw [hW]
              clear hW hK B0 c0 f0 e0 e1 e2 e3 e4 e5 e6 e7 e8
              refine wp_region_quiet (C := fun W' => Blk W' (w.heap.size) 26 #[.slice (some ⟨b, off, none⟩) xs.length cap, .int .i64 bd] ∧ Blk W' (wr.heap.size) 48 #[.int .u64 e.a.h, .int .u64 e.a.l, .bool e.a.v, .int .u64 e.x.p.a.h, .int .u64 e.x.p.a.l, .bool e.x.p.a.v, .int .i64 e.x.p.n, .int .i64 e.x.hop, .bool true] ∧ Kept w W') (by kernel_rfl) (by kernel_rfl) ⟨B0'.drew, BE.drew, hK'.drew⟩ ?_
              go_simp
              repeat (first
                | (apply q_val; rfl; (intro W hC; obtain ⟨b0, b1, hk⟩ := hC; have k0 := b0.cell; have k1 := b1.cell; clear b0 b1 hk; go_simp; rfl); go_simp)
                | (refine q_off rfl ?_; go_simp)
                | (apply q_call (f := 89); rfl; (intro W hC; go_simp; rfl); (intro W hC; (with_reducible refine (queue_fits_is ⟨_, _, _⟩ ⟨⟨⟨_, _, _⟩, _⟩, _⟩ _ Hfit.out).mono ?_); rintro e w1 ⟨rfl, hb1⟩; refine ⟨?_, hC.1.call hb1.out, hC.2.1.call hb1.out, hC.2.2.call hb1.out⟩; rfl); go_simp)
                | (apply q_call (f := 94); rfl; (intro W hC; go_simp; rfl); (intro W hC; (with_reducible refine (queue_whole ⟨_, _, _⟩ _).mono ?_); rintro e w1 ⟨rfl, hb1⟩; refine ⟨?_, hC.1.call hb1.out, hC.2.1.call hb1.out, hC.2.2.call hb1.out⟩; rfl); go_simp)
                | (apply q_call (f := 88); rfl; (intro W hC; go_simp; rfl); (intro W hC; (with_reducible refine (queue_first' (some ⟨b, off, none⟩) k cap ⟨_, _, _⟩ (xs.take k) (by simp; omega) (by omega) _ (((hr.take k).below hC.2.2.out).more hC.2.2.size)).mono ?_); rintro e w1 ⟨rfl, hb1⟩; refine ⟨?_, hC.1.call hb1.out, hC.2.1.call hb1.out, hC.2.2.call hb1.out⟩; rfl); go_simp))
              refine q_end ?_
              intro W1 B0_ B1_ hK1
              go_wp2_with fail
              go_ret
              exact ⟨by simp [Hres.out], hK1⟩
            | true =>
              have Hres : Hid (okE xs k e = true) := Lib.hid ((by simp [okE, hfit, hs, hf, hw]))
              have Hfit := Lib.hid hfit
              clear hfit
              have Hs := Lib.hid hs
              have hf1 : (firE (xs.take k) e.a == -1) = true := hf
              have hf2 : (firE (xs.take k) e.a != -1) = false := by simp [bne, hf]
              clear hf hw
              go_wp2_with fail
              obtain ⟨W, hW⟩ : ∃ W, wr.alloc (.cells #[.int .u64 e.a.h, .int .u64 e.a.l, .bool e.a.v, .int .u64 e.x.p.a.h, .int .u64 e.x.p.a.l, .bool e.x.p.a.v, .int .i64 e.x.p.n, .int .i64 e.x.hop, .bool true] 48) = W := ⟨_, rfl⟩
              have BE : Blk W wr.heap.size 48 #[.int .u64 e.a.h, .int .u64 e.a.l, .bool e.a.v, .int .u64 e.x.p.a.h, .int .u64 e.x.p.a.l, .bool e.x.p.a.v, .int .i64 e.x.p.n, .int .i64 e.x.hop, .bool true] := hW ▸ Blk.new _ _ _
              have B0' : Blk W w.heap.size 26 #[.slice (some ⟨b, off, none⟩) xs.length cap, .int .i64 bd] := hW ▸ B0.alloc _
              have hK' : Kept w W := hW ▸ hK.alloc _
              rw [hW]
              clear hW hK B0 c0 f0 e0 e1 e2 e3 e4 e5 e6 e7 e8
              refine wp_region_quiet (C := fun W' => Blk W' (w.heap.size) 26 #[.slice (some ⟨b, off, none⟩) xs.length cap, .int .i64 bd] ∧ Blk W' (wr.heap.size) 48 #[.int .u64 e.a.h, .int .u64 e.a.l, .bool e.a.v, .int .u64 e.x.p.a.h, .int .u64 e.x.p.a.l, .bool e.x.p.a.v, .int .i64 e.x.p.n, .int .i64 e.x.hop, .bool true] ∧ Kept w W') (by kernel_rfl) (by kernel_rfl) ⟨B0'.drew, BE.drew, hK'.drew⟩ ?_
              go_simp
              repeat (first
                | (apply q_val; rfl; (intro W hC; obtain ⟨b0, b1, hk⟩ := hC; have k0 := b0.cell; have k1 := b1.cell; clear b0 b1 hk; go_simp; rfl); go_simp)
                | (refine q_off rfl ?_; go_simp)
                | (apply q_call (f := 89); rfl; (intro W hC; go_simp; rfl); (intro W hC; (with_reducible refine (queue_fits_is ⟨_, _, _⟩ ⟨⟨⟨_, _, _⟩, _⟩, _⟩ _ Hfit.out).mono ?_); rintro e w1 ⟨rfl, hb1⟩; refine ⟨?_, hC.1.call hb1.out, hC.2.1.call hb1.out, hC.2.2.call hb1.out⟩; rfl); go_simp)
                | (apply q_call (f := 94); rfl; (intro W hC; go_simp; rfl); (intro W hC; (with_reducible refine (queue_whole ⟨_, _, _⟩ _).mono ?_); rintro e w1 ⟨rfl, hb1⟩; refine ⟨?_, hC.1.call hb1.out, hC.2.1.call hb1.out, hC.2.2.call hb1.out⟩; rfl); go_simp)
                | (apply q_call (f := 88); rfl; (intro W hC; go_simp; rfl); (intro W hC; (with_reducible refine (queue_first' (some ⟨b, off, none⟩) k cap ⟨_, _, _⟩ (xs.take k) (by simp; omega) (by omega) _ (((hr.take k).below hC.2.2.out).more hC.2.2.size)).mono ?_); rintro e w1 ⟨rfl, hb1⟩; refine ⟨?_, hC.1.call hb1.out, hC.2.1.call hb1.out, hC.2.2.call hb1.out⟩; rfl); go_simp))
              refine q_end ?_
              intro W1 B0_ B1_ hK1
              go_wp2_with fail
              go_roundw
              case rel => exact ⟨k + 1, by omega, by simp, by rw [allE_succ Hx.out, Hres.out, Hall.out]; rfl, hK1, B0_⟩
              case measure => simp [intOf]; omega
    · obtain rfl : k = xs.length := by omega
      have Hall := Lib.hid hall
      clear hall
      go_wp2_with fail
      go_ret
      exact ⟨by simp [Hall.out], hK⟩
end Go.Proofs.Ytapiffkeclnbbaa.Q
