import Derived.Test.YtapiffkeclnbbaaDoorProg
import Derived.Below
import Derived.Deep.Draws
import Derived.Deep.AppendLies
import Derived.Maps.AppendAt
import Derived.OwnWalk
import Derived.Laws.MakeOwn
import Derived.Laws.OwnMore
import Derived.Deep.OwnRows
import Derived.Tactics
import Derived.Laws.Slices
import Derived.WalkKit
import Derived.KernelRfl
import Derived.RowKit3
import Derived.Deep.LoopGhost
import Derived.Deep.QuietTactic
import Derived.BigQuiet
import Derived.WideLaws
import Derived.Deep.DeepCutAuto
import Derived.Deep.CutBlock
import Derived.Deep.RegionHeld3
import Derived.Deep.RegionWith
import Derived.Deep.RegionLaw
import Derived.Laws.Rows
import Derived.ArgAppend
import Derived.OrdersHeld
import Derived.Laws.BitsLemmas
import Derived.Laws.StructEq
import Derived.RowKit
import Derived.Lib.Hide
import Derived.Lib.SliceRun
import Derived.StillTail
import Derived.Laws.CopyOwn
import Derived.Test.YtapiffkeclnbbaaDoorB0
import Derived.Test.YtapiffkeclnbbaaDoorB1
import Derived.Test.YtapiffkeclnbbaaDoorB2
import Derived.Test.YtapiffkeclnbbaaDoorB3
import Derived.Test.YtapiffkeclnbbaaDoorB4
import Derived.Test.YtapiffkeclnbbaaDoorS1
import Derived.Test.YtapiffkeclnbbaaDoorS2
import Derived.Test.YtapiffkeclnbbaaDoorS3
/-! stats.New, kedgeref15.New. -/
set_option linter.unusedVariables false
set_option linter.unusedSimpArgs false
namespace Go.Proofs.YtapiffkeclnbbaaDoor.S
open Go.RowKit Go.Proofs.YtapiffkeclnbbaaDoor.B0
/-- the slice's cells are the whole numbers xs -/
def Ri (W : World) (B : Nat) (k : IntKind) (A : Option Addr) (xs : List Int) : Prop :=
  xs = [] ∨ ∃ b off, A = some ⟨b, off, none⟩ ∧ b < B ∧ ∀ i x, xs[i]? = some x → W.cell? ⟨b, off + i, none⟩ = some (.int k x)
theorem Ri.below {W W' : World} {B : Nat} {k : IntKind} {A : Option Addr} {xs : List Int} (h : Ri W B k A xs) (hb : Below B W W') : Ri W' B k A xs := by
  rcases h with h | ⟨b, off, e, hlt, hc⟩
  · exact .inl h
  · exact .inr ⟨b, off, e, hlt, fun i x hx => (hb.cell hlt).trans (hc i x hx)⟩
def newTo (xs : List Int) (i : Nat) : List Int := xs.take i ++ List.replicate (17 - i) 0
def newC (xs : List Int) : List Int := newTo xs (min 17 xs.length)
theorem newTo_len {xs : List Int} {i : Nat} (h : i ≤ xs.length) (h2 : i ≤ 17) : (newTo xs i).length = 17 := by simp [newTo, Nat.min_eq_left h]; omega
theorem newC_len (xs : List Int) : (newC xs).length = 17 := newTo_len (by omega) (by omega)
theorem okC_new {xs : List Int} (h : ∀ x ∈ xs, okU x) : okC (newC xs) := ⟨newC_len xs, fun x hx => by
  unfold newC newTo at hx
  rcases List.mem_append.1 hx with h' | h'
  · exact h _ (List.mem_of_mem_take h')
  · rw [(List.mem_replicate.1 h').2]; simp [okU]⟩
theorem newTo_succ {xs : List Int} {i : Nat} (h : i < xs.length) (h2 : i < 17) : (newTo xs i).set i (xs[i]) = newTo xs (i + 1) := by
  unfold newTo
  have hl : (xs.take i).length = i := by simp; omega
  rw [List.set_append_right _ _ (by omega), hl, Nat.sub_self, show 17 - i = (17 - (i + 1)) + 1 by omega, List.replicate_succ, List.set_cons_zero, List.take_add_one, List.getElem?_eq_getElem h]
  rw [List.append_assoc]
  rfl
theorem z17_list : z17.toList = List.replicate 17 (.int .u64 0) := rfl
theorem z17_vC : z17 = vC (List.replicate 17 0) := rfl
theorem new_splice (xs : List Int) : (splice z17.toList 0 ((xs.take 17).map (Value.int .u64))).toArray = vC (newC xs) := by
  unfold splice vC newC newTo
  rw [z17_list]
  simp only [List.take_zero, List.nil_append, Nat.zero_add, List.drop_replicate, List.map_append, List.map_replicate, List.length_map, List.length_take]
  rw [show xs.take (min 17 xs.length) = xs.take 17 by rw [Nat.min_comm, List.take_eq_take_iff]; omega]
theorem sz25 : (Tryd.prog.info? 25).map (·.size) = some 1 := by kernel_rfl
set_option maxHeartbeats 400000 in
set_option maxRecDepth 100000 in
theorem stats_New (A : Option Addr) (n cap : Nat) (xs : List Int) (hn : xs.length = n) (w : World) (hr : Ri w w.heap.size .u64 A xs) : Calls Tryd.prog 9 #[.slice A n cap] w fun e w' => e = .returned (.agg (vC (newC xs))) ∧ Kept w w' := by
  have hu := Tryd.underlying28
  have hu2 := Tryd.underlying26
  have hS : (vC (newC xs)).size = 17 := by rw [vC_size, newC_len]
  have H28 := Lib.hid (size28 hS)
  have H1 := Lib.hid (vC_one (newC xs))
  have HS := Lib.hid hS
  clear hS
  have Hn := Lib.hid hn
  clear hn
  go_enter Tryd.func9, Tryd.ntmps9
  obtain ⟨cs, hcs⟩ : ∃ cs, cs = (xs.take 17).map (Value.int .u64) := ⟨_, rfl⟩
  have Hcs := Lib.hid hcs
  have hone : ∀ v ∈ cs, v.oneCell' = true := by
    rw [hcs]
    intro v hv
    obtain ⟨x, _, rfl⟩ := List.mem_map.1 hv
    rfl
  have hln : cs.length = Nat.min n 17 := by rw [hcs]; simp [Hn.out, Nat.min_comm]
  have Hone := Lib.hid hone
  have Hln := Lib.hid hln
  clear hcs hone hln
  go_wp2_with (first
    | (refine wpList_copy_splice rfl (.tmp 5) (.tmp 6) 22 22 rfl 25 Tryd.underlying22 sz25 _ _ 17 17 n cap rfl rfl (w.heap.size + 1) 0 z17.toList 28 (Blk.new2 w _ _ _).out cs Hln.out ?_ ?_ Hone.out (w.heap.size + 1) ((w.alloc (.cells z17 28)).alloc (.cells z17 28)) (Below.refl _ _) (Nat.le_refl _) ?_)
    | fail)
  · intro h0
    rcases hr with h | ⟨b, off, e, hlt, hc⟩
    · rw [Hcs.out, h] at h0
      simp at h0
    · refine ⟨_, e, fun j v hv => ?_⟩
      rw [Hcs.out, List.getElem?_map] at hv
      obtain ⟨x, hx, rfl⟩ := Option.map_eq_some_iff.1 hv
      have hx2 : xs[j]? = some x := by
        rw [List.getElem?_take] at hx
        split at hx
        · exact hx
        · cases hx
      rw [Addr.add_lit]
      exact (((Below.refl w.heap.size w).alloc (Nat.le_refl _) _).alloc (by simp) _).cell (p := ⟨b, off + j, none⟩) hlt |>.trans (hc j x hx2)
  · rw [Hln.out]
    simp [z17]
    exact Nat.min_le_right _ _
  · intro w1 hg hb1
    rw [Hcs.out, new_splice] at hg
    have B1 : Hid (Blk w1 (w.heap.size + 1) 28 (vC (newC xs))) := hg
    have B0 : Blk w1 w.heap.size 28 z17 := ((Blk.new w _ _).alloc _).below hb1 (Nat.lt_succ_self _)
    have hK : Kept w w1 := (((Kept.refl w).alloc _).alloc _).out.trans (hb1.mono (by omega))
    have HB0 := Lib.hid B0
    clear hg B0
    go_wp2_with (first
      | (refine wpList_load_row rfl 28 (.tmp 3) rfl (w.heap.size + 1) rfl 28 (vC (newC xs)) (0, 0) _ B1.out.out Tryd.underlying28 rfl H28.out ?_)
      | (refine wpList_store_row rfl 28 (.tmp 2) (.tmp 8) rfl w.heap.size (vC (newC xs)) rfl rfl 28 z17 HB0.out.out H28.out (by rw [HS.out]; rfl) H1.out ?_))
    exact ret_blk rfl rfl (blk_row _ HB0.out) hu rfl H28.out rfl ⟨rfl, kept_row hK _ (Nat.le_refl _)⟩
set_option maxHeartbeats 800000 in
set_option maxRecDepth 100000 in
theorem ref_New (A : Option Addr) (n cap : Nat) (xs : List Int) (hn : xs.length = n) (hnc : n ≤ cap) (hmx : n ≤ 9223372036854775807) (w : World) (hr : Ri w w.heap.size .u64 A xs) : Calls Tryd.prog 12 #[.slice A n cap] w fun e w' => e = .returned (.agg (vC (newC xs))) ∧ Kept w w' := by
  have hu := Tryd.underlying38
  have hu2 := Tryd.underlying26
  have hS : (vC (newC xs)).size = 17 := by rw [vC_size, newC_len]
  have H28 := Lib.hid (size38 hS)
  have H1 := Lib.hid (vC_one (newC xs))
  have HS := Lib.hid hS
  clear hS
  have Hn := Lib.hid hn
  clear hn
  go_enter Tryd.func12, Tryd.ntmps12
  go_wp2_with fail
  go_loopw [4] (fun i wr => ∃ k : Nat, k ≤ n ∧ k ≤ 17 ∧ i = .int .i64 k ∧ Blk wr w.heap.size 38 z17 ∧ Blk wr (w.heap.size + 1) 38 (vC (newTo xs k)) ∧ Kept w wr)
    (fun i _ => n - (intOf i).toNat)
  case atStart =>
    exact ⟨0, Nat.zero_le _, Nat.zero_le _, rfl, (Blk.new _ _ _).alloc _, Blk.new2 _ _ _ _, ((Kept.refl w).alloc _).alloc _⟩
  case round =>
    obtain ⟨k, hk, hk17, rfl, B0, B1, hK⟩ := hrel
    by_cases hlt : k < 17
    · have d1 : decide ((k : Int) < 17) = true := decide_eq_true (by omega)
      by_cases hln : k < n
      · have d2 : decide ((k : Int) < (n : Int)) = true := decide_eq_true (by omega)
        have hlx : k < xs.length := by rw [Hn.out]; exact hln
        obtain ⟨x, hx⟩ : ∃ x, xs[k] = x := ⟨_, rfl⟩
        have hset : (vC (newTo xs k)).setIfInBounds k (.int .u64 x) = vC (newTo xs (k + 1)) := by rw [vC_set, ← hx, newTo_succ hlx hlt]
        rcases hr with h | ⟨b, off, rfl, hb, hc⟩
        · subst h; simp at hlx
        · have c0 := (hK.out.cell (p := ⟨b, off + k, none⟩) hb).trans (hc k x (by rw [List.getElem?_eq_getElem hlx, hx]))
          have f1 := B1.frozen k
          have hk0 : (0 : Int) ≤ (k : Int) := by omega
          have hkz : (k : Int) < 17 := by omega
          have hkn : (k : Int) < (n : Int) := by omega
          have hcc : (k : Int) < (cap : Int) := by omega
          have hws : ∃ v, wr.cell? ⟨w.heap.size + 1, k, none⟩ = some v := ⟨_, (B1.cell k).trans (vC_get _ k (by rw [newTo_len (by omega) hk17]; omega))⟩
          obtain ⟨v0, hv0⟩ := hws
          have HB0 := Lib.hid B0
          have HB1 := Lib.hid B1
          have Hset := Lib.hid hset
          clear B0 B1 hset hx
          go_wp2_with fail
          go_roundw
          case rel =>
            refine ⟨k + 1, by omega, by omega, by simp, HB0.out.far (by simp) _, ?_, hK.set (by omega)⟩
            exact HB1.out.put k _ Hset.out
          case measure => simp [intOf]; omega
      · have d2 : decide ((k : Int) < (n : Int)) = false := decide_eq_false (by omega)
        have e0 : newTo xs k = newC xs := by unfold newC; rw [Hn.out]; congr 1; omega
        rw [e0] at B1
        have HB0 := Lib.hid B0
        have HB1 := Lib.hid B1
        clear B0 B1 e0
        go_wp2_with (first
          | (refine wpList_load_row rfl 38 (.tmp 3) rfl (w.heap.size + 1) rfl 38 (vC (newC xs)) (0, 0) _ HB1.out.out Tryd.underlying38 rfl H28.out ?_)
          | (refine wpList_store_row rfl 38 (.tmp 2) (.tmp 23) rfl w.heap.size (vC (newC xs)) rfl rfl 38 z17 HB0.out.out H28.out (by rw [HS.out]; rfl) H1.out ?_))
        exact ret_blk rfl rfl (blk_row _ HB0.out) hu rfl H28.out rfl ⟨rfl, kept_row hK _ (Nat.le_refl _)⟩
    · have d1 : decide ((k : Int) < 17) = false := decide_eq_false (by omega)
      have e0 : newTo xs k = newC xs := by unfold newC; rw [Hn.out]; congr 1; omega
      rw [e0] at B1
      have HB0 := Lib.hid B0
      have HB1 := Lib.hid B1
      clear B0 B1 e0
      go_wp2_with (first
        | (refine wpList_load_row rfl 38 (.tmp 3) rfl (w.heap.size + 1) rfl 38 (vC (newC xs)) (0, 0) _ HB1.out.out Tryd.underlying38 rfl H28.out ?_)
        | (refine wpList_store_row rfl 38 (.tmp 2) (.tmp 23) rfl w.heap.size (vC (newC xs)) rfl rfl 38 z17 HB0.out.out H28.out (by rw [HS.out]; rfl) H1.out ?_))
      exact ret_blk rfl rfl (blk_row _ HB0.out) hu rfl H28.out rfl ⟨rfl, kept_row hK _ (Nat.le_refl _)⟩
end Go.Proofs.YtapiffkeclnbbaaDoor.S
