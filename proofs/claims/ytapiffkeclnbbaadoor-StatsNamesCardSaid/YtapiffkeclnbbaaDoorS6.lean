import Derived.Test.YtapiffkeclnbbaaDoorProg
import Derived.Below
import Derived.Deep.Draws
import Derived.Deep.AppendLies
import Derived.Maps.AppendAt
import Derived.OwnWalk
import Derived.Laws.MakeOwn
import Derived.Laws.OwnMore
import Derived.Deep.OwnRows
import Derived.Tactics
import Derived.Laws.Slices
import Derived.WalkKit
import Derived.KernelRfl
import Derived.RowKit3
import Derived.Deep.LoopGhost
import Derived.Deep.QuietTactic
import Derived.BigQuiet
import Derived.WideLaws
import Derived.Deep.DeepCutAuto
import Derived.Deep.CutBlock
import Derived.Deep.RegionHeld3
import Derived.Deep.RegionWith
import Derived.Deep.RegionLaw
import Derived.Laws.Rows
import Derived.ArgAppend
import Derived.OrdersHeld
import Derived.Laws.BitsLemmas
import Derived.Laws.StructEq
import Derived.RowKit
import Derived.Lib.Hide
import Derived.Lib.SliceRun
import Derived.StillTail
import Derived.Laws.CopyOwn
import Derived.Shelf.Strings.SplitShaped
import Derived.Test.YtapiffkeclnbbaaDoorB0
import Derived.Test.YtapiffkeclnbbaaDoorB1
import Derived.Test.YtapiffkeclnbbaaDoorB2
import Derived.Test.YtapiffkeclnbbaaDoorB3
import Derived.Test.YtapiffkeclnbbaaDoorB4
import Derived.Test.YtapiffkeclnbbaaDoorS1
import Derived.Test.YtapiffkeclnbbaaDoorS2
import Derived.Test.YtapiffkeclnbbaaDoorS3
import Derived.Test.YtapiffkeclnbbaaDoorS4
import Derived.Test.YtapiffkeclnbbaaDoorS5
/-! strings.Fields at the names; stats.Name, kedgeref15.Name. -/
set_option linter.unusedVariables false
set_option linter.unusedSimpArgs false
namespace Go.Proofs.YtapiffkeclnbbaaDoor.S
open Go.RowKit Go.Proofs.YtapiffkeclnbbaaDoor.B0
def laysFields_ren : Go.Shelf.Ren := ⟨fun | 157 => 23 | 229 => 25 | 199 => 26 | 261 => 27 | 311 => 28 | 312 => 29 | n => n, fun | 9 => 9 | 31 => 49 | 3 => 3 | 5 => 5 | 4 => 4 | 119 => 53 | 0 => 0 | 40 => 55 | 152 => 56 | 21 => 21 | 154 => 58 | 51 => 59 | 141 => 61 | 196 => 65 | 193 => 62 | 198 => 68 | 49 => 66 | 194 => 63 | 201 => 71 | 226 => 73 | 46 => 74 | 227 => 75 | n => n, fun | 0 => 0 | 6 => 1 | n => n⟩
theorem laysFields : Go.Proofs.LaysM.n157 Tryd.prog laysFields_ren := {
  mixed := by kernel_rfl
  f157 := Tryd.func23.trans (congrArg some (by kernel_rfl))
  f199 := Tryd.func26.trans (congrArg some (by kernel_rfl))
  f229 := Tryd.func25.trans (congrArg some (by kernel_rfl))
  f261 := Tryd.func27.trans (congrArg some (by kernel_rfl))
  f311 := Tryd.func28.trans (congrArg some (by kernel_rfl))
  f312 := Tryd.func29.trans (congrArg some (by kernel_rfl))
  t0 := Tryd.underlying0
  a0 := Tryd.isAgg0
  z0 := Tryd.sizeOf0
  v0 := Tryd.zeroValue0
  t3 := Tryd.underlying3
  a3 := Tryd.isAgg3
  z3 := Tryd.sizeOf3
  v3 := Tryd.zeroValue3
  t4 := Tryd.underlying4
  a4 := Tryd.isAgg4
  z4 := Tryd.sizeOf4
  v4 := Tryd.zeroValue4
  t5 := Tryd.underlying5
  a5 := Tryd.isAgg5
  z5 := Tryd.sizeOf5
  v5 := Tryd.zeroValue5
  t9 := Tryd.underlying9
  a9 := Tryd.isAgg9
  z9 := Tryd.sizeOf9
  v9 := Tryd.zeroValue9
  t21 := Tryd.underlying21
  a21 := Tryd.isAgg21
  z21 := Tryd.sizeOf21
  v21 := Tryd.zeroValue21
  t31 := Tryd.underlying49
  a31 := Tryd.isAgg49
  z31 := Tryd.sizeOf49
  v31 := Tryd.zeroValue49
  t40 := Tryd.underlying55
  a40 := Tryd.isAgg55
  z40 := Tryd.sizeOf55
  v40 := Tryd.zeroValue55
  t46 := Tryd.underlying74
  a46 := Tryd.isAgg74
  z46 := Tryd.sizeOf74
  v46 := Tryd.zeroValue74
  t49 := Tryd.underlying66
  a49 := Tryd.isAgg66
  z49 := Tryd.sizeOf66
  v49 := Tryd.zeroValue66
  t51 := Tryd.underlying59
  a51 := Tryd.isAgg59
  z51 := Tryd.sizeOf59
  v51 := Tryd.zeroValue59
  t119 := Tryd.underlying53
  a119 := Tryd.isAgg53
  z119 := Tryd.sizeOf53
  t141 := Tryd.underlying61
  a141 := Tryd.isAgg61
  z141 := Tryd.sizeOf61
  v141 := Tryd.zeroValue61
  t152 := Tryd.underlying56
  a152 := Tryd.isAgg56
  z152 := Tryd.sizeOf56
  v152 := Tryd.zeroValue56
  t154 := Tryd.underlying58
  a154 := Tryd.isAgg58
  z154 := Tryd.sizeOf58
  v154 := Tryd.zeroValue58
  t193 := Tryd.underlying62
  a193 := Tryd.isAgg62
  z193 := Tryd.sizeOf62
  v193 := Tryd.zeroValue62
  t194 := Tryd.underlying63
  a194 := Tryd.isAgg63
  z194 := Tryd.sizeOf63
  v194 := Tryd.zeroValue63
  t196 := Tryd.underlying65
  a196 := Tryd.isAgg65
  z196 := Tryd.sizeOf65
  v196 := Tryd.zeroValue65
  t198 := Tryd.underlying68
  a198 := Tryd.isAgg68
  z198 := Tryd.sizeOf68
  v198 := Tryd.zeroValue68
  t201 := Tryd.underlying71
  a201 := Tryd.isAgg71
  z201 := Tryd.sizeOf71
  v201 := Tryd.zeroValue71
  t226 := Tryd.underlying73
  a226 := Tryd.isAgg73
  z226 := Tryd.sizeOf73
  v226 := Tryd.zeroValue73
  t227 := Tryd.underlying75
  a227 := Tryd.isAgg75
  z227 := Tryd.sizeOf75
  v227 := Tryd.zeroValue75
  g0 := by kernel_rfl
  g6 := by kernel_rfl
  i0 := by kernel_rfl
  i3 := by kernel_rfl
  i4 := by kernel_rfl
  i5 := by kernel_rfl
  i9 := by kernel_rfl
  i21 := by kernel_rfl
  i31 := by kernel_rfl
  i40 := by kernel_rfl
  i46 := by kernel_rfl
  i49 := by kernel_rfl
  i51 := by kernel_rfl
  i141 := by kernel_rfl
  i152 := by kernel_rfl
  i154 := by kernel_rfl
  i193 := by kernel_rfl
  i194 := by kernel_rfl
  i196 := by kernel_rfl
  i198 := by kernel_rfl
  i201 := by kernel_rfl
  i226 := by kernel_rfl
  i227 := by kernel_rfl
  m0 := by kernel_rfl
  m6 := by kernel_rfl }
/-- the names -/
def nm : List ByteArray := [⟨#[108, 111, 111, 107, 117, 112, 115]⟩, ⟨#[104, 105, 116, 115]⟩, ⟨#[109, 105, 115, 115, 101, 115]⟩, ⟨#[117, 110, 114, 111, 117, 116, 101, 100]⟩, ⟨#[100, 117, 112, 108, 105, 99, 97, 116, 101, 115]⟩, ⟨#[111, 118, 101, 114, 102, 108, 111, 119, 115]⟩, ⟨#[101, 110, 113, 117, 101, 117, 101, 100]⟩, ⟨#[102, 105, 108, 108, 115]⟩, ⟨#[105, 110, 115, 116, 97, 108, 108, 115]⟩, ⟨#[97, 98, 115, 111, 114, 98, 101, 100]⟩, ⟨#[118, 105, 99, 116, 105, 109, 115]⟩, ⟨#[102, 108, 117, 115, 104, 101, 100]⟩, ⟨#[101, 118, 105, 99, 116, 101, 100]⟩, ⟨#[112, 114, 101, 102, 101, 116, 99, 104, 101, 100]⟩, ⟨#[102, 111, 114, 119, 97, 114, 100, 101, 100]⟩, ⟨#[108, 111, 99, 97, 108, 115]⟩, ⟨#[100, 114, 111, 112, 112, 101, 100]⟩]
/-- all names, as the program has them -/
def nmAll : ByteArray := ⟨#[108, 111, 111, 107, 117, 112, 115, 32, 104, 105, 116, 115, 32, 109, 105, 115, 115, 101, 115, 32, 117, 110, 114, 111, 117, 116, 101, 100, 32, 100, 117, 112, 108, 105, 99, 97, 116, 101, 115, 32, 111, 118, 101, 114, 102, 108, 111, 119, 115, 32, 101, 110, 113, 117, 101, 117, 101, 100, 32, 102, 105, 108, 108, 115, 32, 105, 110, 115, 116, 97, 108, 108, 115, 32, 97, 98, 115, 111, 114, 98, 101, 100, 32, 118, 105, 99, 116, 105, 109, 115, 32, 102, 108, 117, 115, 104, 101, 100, 32, 101, 118, 105, 99, 116, 101, 100, 32, 112, 114, 101, 102, 101, 116, 99, 104, 101, 100, 32, 102, 111, 114, 119, 97, 114, 100, 101, 100, 32, 108, 111, 99, 97, 108, 115, 32, 100, 114, 111, 112, 112, 101, 100]⟩
theorem fields_nm : Lib.fields nmAll.data.toList = nm.map (·.data.toList) := by kernel_rfl
theorem ascii_nm : ∀ (j : Nat) b, nmAll.data.toList[j]? = some b → b.toNat < 128 := by
  have h : (nmAll.data.toList.all fun b => decide (b.toNat < 128)) = true := by kernel_rfl
  intro j b hj
  exact of_decide_eq_true (List.all_eq_true.1 h b (List.mem_of_getElem? hj))
/-- the table of white space, as it was laid -/
def Sp (w : World) : Prop := ∀ c : Nat, c < 256 → w.cell? ⟨0, c, none⟩ = some (.int .u8 (if Lib.isSp (UInt8.ofNat c) then 1 else 0))
theorem Sp.out {w : World} (h : Sp w) : ∀ c : Nat, c < 256 → w.cell? ⟨0, c, none⟩ = some (.int .u8 (if Lib.isSp (UInt8.ofNat c) then 1 else 0)) := h
theorem Sp.kept {w w' : World} (h : Sp w) (hk : Kept w w') : Sp w' := fun c hc => (hk.out.cell (p := ⟨0, c, none⟩) (World.block_lt_of_cell? _ _ (h c hc))).trans (h c hc)
theorem Sp.call {w w' : World} (h : Sp w) (hb : Below w.heap.size w w') : Sp w' := h.kept hb
theorem call_Fields (w : World) (h : Sp w) : Calls Tryd.prog 23 #[.string nmAll] w fun e w' => e = .returned (.slice (some ⟨w.heap.size, 0, none⟩) 17 17) ∧ w' = w.alloc (.cells (nm.map Value.string).toArray 9) := by
  refine (Any.strings_Fields_core (ρ := laysFields_ren) { laysFields with } laysFields.i9 nmAll w (of_decide_eq_true (by kernel_rfl)) ascii_nm h).mono ?_
  rintro e w' ⟨rfl, rfl⟩
  rw [fields_nm]
  exact ⟨rfl, rfl⟩
def nameC (k : Int) : ByteArray := if isK k = true then nm[k.toNat]?.getD ⟨#[]⟩ else ⟨#[]⟩
set_option maxHeartbeats 400000 in
set_option maxRecDepth 100000 in
theorem stats_Name (k : Int) (w : World) (hsp : Sp w) : Calls Tryd.prog 17 #[.int .i64 k] w fun e w' => e = .returned (.string (nameC k)) ∧ Kept w w' := by
  cases hk : isK k with
  | false =>
    have he : nameC k = ⟨#[]⟩ := by simp [nameC, hk]
    rw [he]
    clear he
    go_enter Tryd.func17, Tryd.ntmps17
    go_wp2_with fail
    refine (stats_is _ _).mono ?_
    rintro e w1 ⟨rfl, rfl⟩
    rw [hk]
    go_wp2_with fail
    go_ret
    exact ⟨rfl, Kept.refl _⟩
  | true =>
    have hd : 0 ≤ k ∧ k < 17 := by simpa [isK] using hk
    have he : nameC k = nm[k.toNat]?.getD ⟨#[]⟩ := by simp [nameC, hk]
    have hl : k.toNat < nm.length := by have : nm.length = 17 := rfl; omega
    obtain ⟨N, hN⟩ : ∃ N, (nm.map Value.string).toArray = N := ⟨_, rfl⟩
    have hg : N[k.toNat]? = some (.string (nm[k.toNat]?.getD ⟨#[]⟩)) := by rw [← hN]; simp [hl]
    rw [he]
    obtain ⟨x, hx⟩ : ∃ x, nm[k.toNat]?.getD ⟨#[]⟩ = x := ⟨_, rfl⟩
    rw [hx] at hg ⊢
    have cF := call_Fields w hsp
    rw [hN] at cF
    obtain ⟨h0, h1⟩ := hd
    clear he hx hN hl
    go_enter Tryd.func17, Tryd.ntmps17
    go_wp2_with fail
    refine (stats_is _ _).mono ?_
    rintro e w1 ⟨rfl, rfl⟩
    rw [hk]
    go_wp2_with fail
    refine cF.mono ?_
    rintro e w1 ⟨rfl, rfl⟩
    go_wp2_with fail
    go_ret
    exact ⟨rfl, (Kept.refl _).alloc _⟩
set_option maxHeartbeats 2000000 in
set_option maxRecDepth 100000 in
theorem ref_Name (k : Int) (w : World) : Calls Tryd.prog 18 #[.int .i64 k] w fun e w' => e = .returned (.string (nameC k)) ∧ Kept w w' := by
  cases hk : isK k with
  | false =>
    have he : nameC k = ⟨#[]⟩ := by simp [nameC, hk]
    rw [he]
    clear he
    go_enter Tryd.func18, Tryd.ntmps18
    go_wp2_with fail
    refine (ref_kind _ _).mono ?_
    rintro e w1 ⟨rfl, rfl⟩
    rw [hk]
    go_wp2_with fail
    go_ret
    exact ⟨rfl, (Kept.refl _).alloc _⟩
  | true =>
    have hd : 0 ≤ k ∧ k < 17 := by simpa [isK] using hk
    have h17 : k = 0 ∨ k = 1 ∨ k = 2 ∨ k = 3 ∨ k = 4 ∨ k = 5 ∨ k = 6 ∨ k = 7 ∨ k = 8 ∨ k = 9 ∨ k = 10 ∨ k = 11 ∨ k = 12 ∨ k = 13 ∨ k = 14 ∨ k = 15 ∨ k = 16 := by omega
    clear hd
    rcases h17 with rfl | rfl | rfl | rfl | rfl | rfl | rfl | rfl | rfl | rfl | rfl | rfl | rfl | rfl | rfl | rfl | rfl <;>
    · clear hk
      go_enter Tryd.func18, Tryd.ntmps18
      go_wp2_with fail
      refine (ref_kind _ _).mono ?_
      rintro e w1 ⟨rfl, rfl⟩
      rw [show isK _ = true from rfl]
      go_wp2_with fail
      go_ret
      exact ⟨rfl, (Kept.refl _).alloc _⟩
end Go.Proofs.YtapiffkeclnbbaaDoor.S
