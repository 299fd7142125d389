import Derived.Test.YtapiffkeclnbbaaProg
import Derived.Below
import Derived.Deep.Draws
import Derived.Deep.AppendLies
import Derived.Maps.AppendAt
import Derived.OwnWalk
import Derived.Laws.MakeOwn
import Derived.Laws.OwnMore
import Derived.Deep.OwnRows
import Derived.Tactics
import Derived.Laws.Slices
import Derived.WalkKit
import Derived.KernelRfl
import Derived.RowKit3
import Derived.Deep.LoopGhost
import Derived.Deep.QuietTactic
import Derived.BigQuiet
import Derived.WideLaws
import Derived.Deep.DeepCutAuto
import Derived.Deep.CutBlock
import Derived.Deep.RegionHeld3
import Derived.Deep.RegionWith
import Derived.Deep.RegionLaw
import Derived.Laws.Rows
import Derived.ArgAppend
import Derived.OrdersHeld
import Derived.Laws.BitsLemmas
import Derived.Laws.StructEq
import Derived.RowKit
import Derived.Lib.Hide
import Derived.Lib.SliceRun
import Derived.StillTail
import Derived.Test.YtapiffkeclnbbaaB0
import Derived.Test.YtapiffkeclnbbaaB1
import Derived.Test.YtapiffkeclnbbaaB2
import Derived.Test.YtapiffkeclnbbaaB3
import Derived.Test.YtapiffkeclnbbaaB4
import Derived.Test.YtapiffkeclnbbaaB5
import Derived.Test.YtapiffkeclnbbaaB6
import Derived.Test.YtapiffkeclnbbaaB7
import Derived.Test.YtapiffkeclnbbaaB8
import Derived.Test.YtapiffkeclnbbaaA1
import Derived.Test.YtapiffkeclnbbaaA2
import Derived.Test.YtapiffkeclnbbaaA3
import Derived.Test.YtapiffkeclnbbaaA4
import Derived.Test.YtapiffkeclnbbaaA5
import Derived.Test.YtapiffkeclnbbaaA6
import Derived.Test.YtapiffkeclnbbaaQ1
import Derived.Test.YtapiffkeclnbbaaQ2
import Derived.Test.YtapiffkeclnbbaaQ3
import Derived.Test.YtapiffkeclnbbaaQ4
/-! slices.Delete at the queue's entries. -/
set_option linter.unusedVariables false
set_option linter.unusedSimpArgs false
namespace Go.Proofs.Ytapiffkeclnbbaa.Q
open Go.RowKit Go.Proofs.Ytapiffkeclnbbaa.B0 Go.Proofs.Ytapiffkeclnbbaa.A2

def zL : List Value := [.int .u64 0, .int .u64 0, .bool false, .int .u64 0, .int .u64 0, .bool false, .int .i64 0, .int .i64 0, .bool false]
theorem zero48 (w : World) : (zeroValue 48).run Try.prog w = .ok zE w := by kernel_rfl
theorem run_clear1 (w : World) (ty : TypeId) (b o c : Nat) (hc : ∀ j, j < 9 → (w.cell? ⟨b, o + j, none⟩).isSome = true) (hf : ∀ j, j < 9 → w.frozen? ⟨b, o + j, none⟩ = false) :
    (Builtin.clear_ #[24] ty #[.slice (some ⟨b, o, none⟩) 1 c]).run Try.prog w = .ok (.tuple #[]) (w.setCells b o zL) := by
  have hz : (Builtin.zeroCells zE.cells 1).toList = zL := by kernel_rfl
  have hst := run_storeCells_cells (P := Try.prog) b o zL 0 w (by simpa [zL] using hc) (by simpa [zL] using hf) (by intro v hv; simp only [zL, List.mem_cons, List.not_mem_nil, or_false] at hv; rcases hv with rfl | rfl | rfl | rfl | rfl | rfl | rfl | rfl | rfl <;> rfl)
  simp only [Nat.add_zero] at hst
  have hz' := hz
  simp only [zE] at hz'
  simp [Builtin.clear_, run_underlying und24, zero48, hz, hz', hst]

theorem blk_some {w : World} {g : Nat} {t : TypeId} {cs : Array Value} (h : Blk w g t cs) {j : Nat} (hj : j < cs.size) : (w.cell? ⟨g, j, none⟩).isSome = true := by
  rw [h.cell, Array.getElem?_eq_getElem hj]
  rfl

set_option maxHeartbeats 2000000 in
set_option maxRecDepth 100000 in
theorem slices_Delete (n k : Nat) (xs : List EntryV) (v : Value) (w : World) (base : Nat) (hown : w.ownsRow base 48 9 v n (xs.flatMap encE)) (hn : xs.length = n) (hb : n ≤ 1024) (hk : k < n) (hbase : base ≤ w.heap.size) :
    Calls Try.prog 98 #[v, .int .i64 k, .int .i64 (k + 1)] w fun e w' => ∃ v', e = .returned v' ∧ w'.ownsRow base 48 9 v' (n - 1) ((xs.eraseIdx k).flatMap encE) ∧ Below base w w' := by
  rcases hown.2 with ⟨hv, h0⟩ | ⟨g, cap, cur, rfl, hgb, hg, hnc, hcm, hs, hx⟩
  · omega
  clear hown
  have B : Blk w g 48 cur := hg
  clear hg
  simp only [maxLen] at hcm
  obtain ⟨news, hnews⟩ : ∃ news, news = (xs.drop (k + 1)).flatMap encE := ⟨_, rfl⟩
  have hnl : news.length = (n - (k + 1)) * 9 := by rw [hnews, flat_len encE_len, List.length_drop, hn]
  have hget : ∀ t u, news[t]? = some u → cur[(k + 1) * 9 + t]? = some u := by
    intro t u hu
    have ht := (List.getElem?_eq_some_iff.1 hu).1
    rw [hnews, ← flat_drop encE_len, ← hx, List.getElem?_drop, List.getElem?_take] at hu
    split at hu
    · rw [Array.getElem?_toList] at hu
      exact hu
    · cases hu
  obtain ⟨A, hA, hsrc⟩ : ∃ A : Addr, (if cap = k + 1 then some (⟨g, 0, none⟩ : Addr) else some ⟨g, (k + 1) * 9, none⟩) = some A ∧ Hid (∀ t u, news[t]? = some u → w.drew.cell? (A.add t) = some u) := by
    by_cases h : cap = k + 1
    · refine ⟨⟨g, 0, none⟩, by simp [h], fun t u hu => ?_⟩
      have h0 : news.length = 0 := by rw [hnl]; omega
      rw [List.length_eq_zero_iff.1 h0] at hu
      simp at hu
    · refine ⟨⟨g, (k + 1) * 9, none⟩, by simp [h], fun t u hu => ?_⟩
      rw [Addr.add_lit]
      exact (B.drew.cell _).trans (hget t u hu)
  have s1 := Lib.hid hnl
  have s2 : Hid (∀ u ∈ news, u.oneCell' = true) := by
    rw [hnews]
    exact encE_one
  have s3 : Hid (∀ t, t < news.length → (w.drew.cell? ⟨g, 0 + k * 9 + t, none⟩).isSome = true ∧ w.drew.frozen? ⟨g, 0 + k * 9 + t, none⟩ = false) := by
    intro t ht
    rw [hnl] at ht
    exact ⟨blk_some B.drew (by omega), B.drew.frozen _⟩
  obtain ⟨W1, hW1⟩ : ∃ W1, W1 = w.drew.setCells g (0 + k * 9) news := ⟨_, rfl⟩
  have B1 : Blk W1 g 48 (putL cur (0 + k * 9) news) := hW1 ▸ B.drew.puts _ _
  have hK1 : Below base w W1 := hW1 ▸ below_puts hgb _ _ (Below.refl _ _).drew
  have hcl : ∀ ty, (Builtin.clear_ #[24] ty #[.slice (some ⟨g, (k + (n - (k + 1))) * 9, none⟩) 1 (cap - (k + (n - (k + 1))))]).run Try.prog W1 = .ok (.tuple #[]) (W1.setCells g ((k + (n - (k + 1))) * 9) zL) :=
    fun ty => run_clear1 W1 ty g _ _ (fun j hj => blk_some B1 (by rw [putL_size]; omega)) (fun j hj => B1.frozen _)
  have hW := Lib.hid hW1
  have hnn : n - (k + (n - (k + 1))) = 1 := by omega
  have Hx := Lib.hid hx
  have Hl := Lib.hid hs
  have Hn := Lib.hid hn
  have Hd := Lib.hid hnews
  clear hW1 hx hs hn hnews hnl hget
  have i0 : (0 : Int) ≤ k := by omega
  have i1 : (k : Int) ≤ k + 1 := by omega
  have i5 : (0 : Int) ≤ k + 1 := by omega
  have i2 : (k : Int) + 1 ≤ n := by omega
  have i3 : (k : Int) ≤ cap := by omega
  have i4 : (k : Int) + 1 ≤ cap := by omega
  have iw : IntKind.i64.wrap ((k : Int) + 1) = (k : Int) + 1 := by simp [IntKind.wrap, IntKind.bits, IntKind.signed]; omega
  obtain ⟨i48, hi48, hz0, hz1, hz2⟩ := info_parts info48
  go_enter Try.func98, Try.ntmps98
  go_wp2_with fail
  go_region_law (refine step_append_room rfl (.tmp 22) (.tmp 25) 24 rfl 48 i48 9 und24 hi48 hz1 g 0 k cap (by simp [Act.eval, Act.put]) A (n - (k + 1)) (cap - (k + 1)) news (by simp [Act.eval, Act.put]) s1.out hsrc.out s2.out (by omega) s3.out ?_; rw [← hW.out])
  go_wp2_with fail
  go_ret
  refine ⟨_, rfl, ?_, ?_⟩
  · refine ⟨by rw [flat_len encE_len, List.length_eraseIdx, Hn.out, if_pos hk], .inr ⟨g, cap, _, by rw [show k + (n - (k + 1)) = n - 1 by omega]; rfl, hgb, B1.puts _ _, by omega, by simp only [maxLen]; omega, by rw [putL_size, putL_size, Hl.out], ?_⟩⟩
    have hsz : (putL cur (0 + k * 9) news).size = cap * 9 := by rw [putL_size, Hl.out]
    rw [putL_list _ _ _ (by rw [hsz]; simp [zL]; omega)]
    have e0 : (k + (n - (k + 1))) * 9 = (n - 1) * 9 := by omega
    rw [e0, List.append_assoc, List.take_append_of_le_length (by rw [List.length_take, Array.length_toList, hsz]; omega), List.take_take, Nat.min_self, putL_list _ _ _ (by rw [s1.out, Hl.out]; omega)]
    have e1 : (n - 1) * 9 = (List.take (0 + k * 9) cur.toList ++ news).length := by rw [List.length_append, List.length_take, Array.length_toList, Hl.out, s1.out]; omega
    rw [e1, List.take_left]
    have e2 : List.take (0 + k * 9) cur.toList = (xs.take k).flatMap encE := by
      rw [← flat_take encE_len, ← Hx.out, List.take_take, Nat.zero_add, Nat.min_eq_left (by omega)]
    rw [e2, Hd.out, List.eraseIdx_eq_take_drop_succ, List.flatMap_append]
  · exact below_puts hgb _ _ hK1
end Go.Proofs.Ytapiffkeclnbbaa.Q
