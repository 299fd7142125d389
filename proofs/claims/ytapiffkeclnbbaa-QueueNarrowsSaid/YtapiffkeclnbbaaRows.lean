/-
  No cell of these rows narrows 'for every input' (looked for: loops, veiled, ifaces, maps, wideKeys, modest, calm, conditions, laid).
  DERIVED. THE GIVEN ROWS OF THIS SEAT. 16 by the template 'for every input the law returns true; each argument reads behind the call as it read before'; 0 by the template 'total and deterministic' (their statements: YtapiffkeclnbbaaTotals.lean).
  GIVEN WITH THE SEED: the statements are not yours to turn. If you find one false, say at which input.
  Laid BY PROGRAM, IN A SANDBOX (cutbox-rows.mjs): the forced cells as the released guide's own fill.sh prints them over the translation 71ea567330c685f3… (all of the seat's roots in one cut). By AI agents, Wed Nov 11 2026. No macro, syntax, notation, axiom, sorry.
-/
import Derived.Test.YtapiffkeclnbbaaChecked
import GoSem.Claim
import GoSem.ClaimJoined
import GoSem.ClaimMapViews
import Derived.JoinedTies
import Derived.KernelRfl
namespace Go.Proofs.Ytapiffkeclnbbaa
/- THE CELL 'sum', in the pinned program and in every row, IS THE sha256 OF THE DUMP (.gsa) THAT YtapiffkeclnbbaaProg.lean LOADS. Nothing in Lean hashes anything: it is a label: what it is worth is what the hold of that sum in a sandbox is worth. -/
noncomputable def Try.pinned : Pinned := { name := "ytapiffkeclnbbaa", sum := "71ea567330c685f337adbc2cc86c82f41f45756a1c9f9054de22fd614e90e06e", checked := Try.checked }
namespace Rows
def none {H : Type} : Left H := { results := [], args := [] }

/-- 'kedgelaw14.QueuePlays': WHATEVER THE INPUT: true; the input reads as it did. -/
def queuePlaysSpec : ChangeSpec := { name := "queuePlays", fn := fun _ => fun
  | [d1, d2] => { results := [.lit (.bool true)], args := [d1, d2] }
  | _ => none }
def queuePlaysRow : OpenClaim := { program := "ytapiffkeclnbbaa", sum := "71ea567330c685f337adbc2cc86c82f41f45756a1c9f9054de22fd614e90e06e", func := "kedge/kedgelaw14.QueuePlays", spec := "queuePlays", unfollowed := true, recurses := true, apart := false }
def QueuePlaysSaid : Prop := queuePlaysRow.holds Try.pinned (OpenSpec.ofChange queuePlaysSpec)

/-- ITS FALSE NEIGHBOUR: 'it returns false'. Refute it at one input. -/
def queuePlaysWrong : ChangeSpec := { name := "queuePlays", fn := fun _ => fun
  | [d1, d2] => { results := [.lit (.bool false)], args := [d1, d2] }
  | _ => none }
def QueuePlaysWrongFalsely : Prop := queuePlaysRow.holds Try.pinned (OpenSpec.ofChange queuePlaysWrong)

/-- 'kedgelaw14.QueuePicks': WHATEVER THE INPUT: true; the input reads as it did. -/
def queuePicksSpec : ChangeSpec := { name := "queuePicks", fn := fun _ => fun
  | [d1, d2, d3] => { results := [.lit (.bool true)], args := [d1, d2, d3] }
  | _ => none }
def queuePicksRow : OpenClaim := { program := "ytapiffkeclnbbaa", sum := "71ea567330c685f337adbc2cc86c82f41f45756a1c9f9054de22fd614e90e06e", func := "kedge/kedgelaw14.QueuePicks", spec := "queuePicks", unfollowed := true, recurses := true, apart := false }
def QueuePicksSaid : Prop := queuePicksRow.holds Try.pinned (OpenSpec.ofChange queuePicksSpec)

/-- ITS FALSE NEIGHBOUR: 'it returns false'. Refute it at one input. -/
def queuePicksWrong : ChangeSpec := { name := "queuePicks", fn := fun _ => fun
  | [d1, d2, d3] => { results := [.lit (.bool false)], args := [d1, d2, d3] }
  | _ => none }
def QueuePicksWrongFalsely : Prop := queuePicksRow.holds Try.pinned (OpenSpec.ofChange queuePicksWrong)

/-- 'kedgelaw14.QueueOnce': WHATEVER THE INPUT: true; the input reads as it did. -/
def queueOnceSpec : ChangeSpec := { name := "queueOnce", fn := fun _ => fun
  | [d1, d2, d3, d4] => { results := [.lit (.bool true)], args := [d1, d2, d3, d4] }
  | _ => none }
def queueOnceRow : OpenClaim := { program := "ytapiffkeclnbbaa", sum := "71ea567330c685f337adbc2cc86c82f41f45756a1c9f9054de22fd614e90e06e", func := "kedge/kedgelaw14.QueueOnce", spec := "queueOnce", unfollowed := true, recurses := true, apart := false }
def QueueOnceSaid : Prop := queueOnceRow.holds Try.pinned (OpenSpec.ofChange queueOnceSpec)

/-- ITS FALSE NEIGHBOUR: 'it returns false'. Refute it at one input. -/
def queueOnceWrong : ChangeSpec := { name := "queueOnce", fn := fun _ => fun
  | [d1, d2, d3, d4] => { results := [.lit (.bool false)], args := [d1, d2, d3, d4] }
  | _ => none }
def QueueOnceWrongFalsely : Prop := queueOnceRow.holds Try.pinned (OpenSpec.ofChange queueOnceWrong)

/-- 'kedgelaw06.RibNone': WHATEVER THE INPUT: true; the input reads as it did. -/
def ribNoneSpec : ChangeSpec := { name := "ribNone", fn := fun _ => fun
  | [d1, d2, d3] => { results := [.lit (.bool true)], args := [d1, d2, d3] }
  | _ => none }
def ribNoneRow : OpenClaim := { program := "ytapiffkeclnbbaa", sum := "71ea567330c685f337adbc2cc86c82f41f45756a1c9f9054de22fd614e90e06e", func := "kedge/kedgelaw06.RibNone", spec := "ribNone", unfollowed := true, recurses := true, apart := false }
def RibNoneSaid : Prop := ribNoneRow.holds Try.pinned (OpenSpec.ofChange ribNoneSpec)

/-- ITS FALSE NEIGHBOUR: 'it returns false'. Refute it at one input. -/
def ribNoneWrong : ChangeSpec := { name := "ribNone", fn := fun _ => fun
  | [d1, d2, d3] => { results := [.lit (.bool false)], args := [d1, d2, d3] }
  | _ => none }
def RibNoneWrongFalsely : Prop := ribNoneRow.holds Try.pinned (OpenSpec.ofChange ribNoneWrong)

/-- 'kedgelaw14.QueueNarrows': WHATEVER THE INPUT: true; the input reads as it did. -/
def queueNarrowsSpec : ChangeSpec := { name := "queueNarrows", fn := fun _ => fun
  | [d1, d2] => { results := [.lit (.bool true)], args := [d1, d2] }
  | _ => none }
def queueNarrowsRow : OpenClaim := { program := "ytapiffkeclnbbaa", sum := "71ea567330c685f337adbc2cc86c82f41f45756a1c9f9054de22fd614e90e06e", func := "kedge/kedgelaw14.QueueNarrows", spec := "queueNarrows", unfollowed := true, recurses := true, apart := false }
def QueueNarrowsSaid : Prop := queueNarrowsRow.holds Try.pinned (OpenSpec.ofChange queueNarrowsSpec)

/-- ITS FALSE NEIGHBOUR: 'it returns false'. Refute it at one input. -/
def queueNarrowsWrong : ChangeSpec := { name := "queueNarrows", fn := fun _ => fun
  | [d1, d2] => { results := [.lit (.bool false)], args := [d1, d2] }
  | _ => none }
def QueueNarrowsWrongFalsely : Prop := queueNarrowsRow.holds Try.pinned (OpenSpec.ofChange queueNarrowsWrong)

/-- 'kedgelaw05.TriePut': WHATEVER THE INPUT: true; the input reads as it did. -/
def triePutSpec : ChangeSpec := { name := "triePut", fn := fun _ => fun
  | [d1, d2, d3, d4] => { results := [.lit (.bool true)], args := [d1, d2, d3, d4] }
  | _ => none }
def triePutRow : OpenClaim := { program := "ytapiffkeclnbbaa", sum := "71ea567330c685f337adbc2cc86c82f41f45756a1c9f9054de22fd614e90e06e", func := "kedge/kedgelaw05.TriePut", spec := "triePut", unfollowed := true, recurses := true, apart := false }
def TriePutSaid : Prop := triePutRow.holds Try.pinned (OpenSpec.ofChange triePutSpec)

/-- ITS FALSE NEIGHBOUR: 'it returns false'. Refute it at one input. -/
def triePutWrong : ChangeSpec := { name := "triePut", fn := fun _ => fun
  | [d1, d2, d3, d4] => { results := [.lit (.bool false)], args := [d1, d2, d3, d4] }
  | _ => none }
def TriePutWrongFalsely : Prop := triePutRow.holds Try.pinned (OpenSpec.ofChange triePutWrong)

/-- 'kedgelaw06.RibDump': WHATEVER THE INPUT: true; the input reads as it did. -/
def ribDumpSpec : ChangeSpec := { name := "ribDump", fn := fun _ => fun
  | [d1, d2, d3] => { results := [.lit (.bool true)], args := [d1, d2, d3] }
  | _ => none }
def ribDumpRow : OpenClaim := { program := "ytapiffkeclnbbaa", sum := "71ea567330c685f337adbc2cc86c82f41f45756a1c9f9054de22fd614e90e06e", func := "kedge/kedgelaw06.RibDump", spec := "ribDump", unfollowed := true, recurses := true, apart := false }
def RibDumpSaid : Prop := ribDumpRow.holds Try.pinned (OpenSpec.ofChange ribDumpSpec)

/-- ITS FALSE NEIGHBOUR: 'it returns false'. Refute it at one input. -/
def ribDumpWrong : ChangeSpec := { name := "ribDump", fn := fun _ => fun
  | [d1, d2, d3] => { results := [.lit (.bool false)], args := [d1, d2, d3] }
  | _ => none }
def RibDumpWrongFalsely : Prop := ribDumpRow.holds Try.pinned (OpenSpec.ofChange ribDumpWrong)

/-- 'kedgelaw05.TrieGone': WHATEVER THE INPUT: true; the input reads as it did. -/
def trieGoneSpec : ChangeSpec := { name := "trieGone", fn := fun _ => fun
  | [d1, d2] => { results := [.lit (.bool true)], args := [d1, d2] }
  | _ => none }
def trieGoneRow : OpenClaim := { program := "ytapiffkeclnbbaa", sum := "71ea567330c685f337adbc2cc86c82f41f45756a1c9f9054de22fd614e90e06e", func := "kedge/kedgelaw05.TrieGone", spec := "trieGone", unfollowed := true, recurses := true, apart := false }
def TrieGoneSaid : Prop := trieGoneRow.holds Try.pinned (OpenSpec.ofChange trieGoneSpec)

/-- ITS FALSE NEIGHBOUR: 'it returns false'. Refute it at one input. -/
def trieGoneWrong : ChangeSpec := { name := "trieGone", fn := fun _ => fun
  | [d1, d2] => { results := [.lit (.bool false)], args := [d1, d2] }
  | _ => none }
def TrieGoneWrongFalsely : Prop := trieGoneRow.holds Try.pinned (OpenSpec.ofChange trieGoneWrong)

/-- 'kedgelaw05.TrieBound': WHATEVER THE INPUT: true; the input reads as it did. -/
def trieBoundSpec : ChangeSpec := { name := "trieBound", fn := fun _ => fun
  | [d] => { results := [.lit (.bool true)], args := [d] }
  | _ => none }
def trieBoundRow : OpenClaim := { program := "ytapiffkeclnbbaa", sum := "71ea567330c685f337adbc2cc86c82f41f45756a1c9f9054de22fd614e90e06e", func := "kedge/kedgelaw05.TrieBound", spec := "trieBound", unfollowed := true, recurses := true, apart := false }
def TrieBoundSaid : Prop := trieBoundRow.holds Try.pinned (OpenSpec.ofChange trieBoundSpec)

/-- ITS FALSE NEIGHBOUR: 'it returns false'. Refute it at one input. -/
def trieBoundWrong : ChangeSpec := { name := "trieBound", fn := fun _ => fun
  | [d] => { results := [.lit (.bool false)], args := [d] }
  | _ => none }
def TrieBoundWrongFalsely : Prop := trieBoundRow.holds Try.pinned (OpenSpec.ofChange trieBoundWrong)

/-- 'kedgelaw05.TrieUnder': WHATEVER THE INPUT: true; the input reads as it did. -/
def trieUnderSpec : ChangeSpec := { name := "trieUnder", fn := fun _ => fun
  | [d1, d2] => { results := [.lit (.bool true)], args := [d1, d2] }
  | _ => none }
def trieUnderRow : OpenClaim := { program := "ytapiffkeclnbbaa", sum := "71ea567330c685f337adbc2cc86c82f41f45756a1c9f9054de22fd614e90e06e", func := "kedge/kedgelaw05.TrieUnder", spec := "trieUnder", unfollowed := true, recurses := true, apart := false }
def TrieUnderSaid : Prop := trieUnderRow.holds Try.pinned (OpenSpec.ofChange trieUnderSpec)

/-- ITS FALSE NEIGHBOUR: 'it returns false'. Refute it at one input. -/
def trieUnderWrong : ChangeSpec := { name := "trieUnder", fn := fun _ => fun
  | [d1, d2] => { results := [.lit (.bool false)], args := [d1, d2] }
  | _ => none }
def TrieUnderWrongFalsely : Prop := trieUnderRow.holds Try.pinned (OpenSpec.ofChange trieUnderWrong)

/-- 'kedgelaw05.TriePlays': WHATEVER THE INPUT: true; the input reads as it did. -/
def triePlaysSpec : ChangeSpec := { name := "triePlays", fn := fun _ => fun
  | [d1, d2, d3] => { results := [.lit (.bool true)], args := [d1, d2, d3] }
  | _ => none }
def triePlaysRow : OpenClaim := { program := "ytapiffkeclnbbaa", sum := "71ea567330c685f337adbc2cc86c82f41f45756a1c9f9054de22fd614e90e06e", func := "kedge/kedgelaw05.TriePlays", spec := "triePlays", unfollowed := true, recurses := true, apart := false }
def TriePlaysSaid : Prop := triePlaysRow.holds Try.pinned (OpenSpec.ofChange triePlaysSpec)

/-- ITS FALSE NEIGHBOUR: 'it returns false'. Refute it at one input. -/
def triePlaysWrong : ChangeSpec := { name := "triePlays", fn := fun _ => fun
  | [d1, d2, d3] => { results := [.lit (.bool false)], args := [d1, d2, d3] }
  | _ => none }
def TriePlaysWrongFalsely : Prop := triePlaysRow.holds Try.pinned (OpenSpec.ofChange triePlaysWrong)

/-- 'kedgelaw05.TrieNone': WHATEVER THE INPUT: true; the input reads as it did. -/
def trieNoneSpec : ChangeSpec := { name := "trieNone", fn := fun _ => fun
  | [d1, d2, d3] => { results := [.lit (.bool true)], args := [d1, d2, d3] }
  | _ => none }
def trieNoneRow : OpenClaim := { program := "ytapiffkeclnbbaa", sum := "71ea567330c685f337adbc2cc86c82f41f45756a1c9f9054de22fd614e90e06e", func := "kedge/kedgelaw05.TrieNone", spec := "trieNone", unfollowed := true, recurses := true, apart := false }
def TrieNoneSaid : Prop := trieNoneRow.holds Try.pinned (OpenSpec.ofChange trieNoneSpec)

/-- ITS FALSE NEIGHBOUR: 'it returns false'. Refute it at one input. -/
def trieNoneWrong : ChangeSpec := { name := "trieNone", fn := fun _ => fun
  | [d1, d2, d3] => { results := [.lit (.bool false)], args := [d1, d2, d3] }
  | _ => none }
def TrieNoneWrongFalsely : Prop := trieNoneRow.holds Try.pinned (OpenSpec.ofChange trieNoneWrong)

/-- 'kedgelaw07.LeafgenWidest': WHATEVER THE INPUT: true; the input reads as it did. -/
def leafgenWidestSpec : ChangeSpec := { name := "leafgenWidest", fn := fun _ => fun
  | [d1, d2, d3, d4] => { results := [.lit (.bool true)], args := [d1, d2, d3, d4] }
  | _ => none }
def leafgenWidestRow : OpenClaim := { program := "ytapiffkeclnbbaa", sum := "71ea567330c685f337adbc2cc86c82f41f45756a1c9f9054de22fd614e90e06e", func := "kedge/kedgelaw07.LeafgenWidest", spec := "leafgenWidest", unfollowed := true, recurses := true, apart := false }
def LeafgenWidestSaid : Prop := leafgenWidestRow.holds Try.pinned (OpenSpec.ofChange leafgenWidestSpec)

/-- ITS FALSE NEIGHBOUR: 'it returns false'. Refute it at one input. -/
def leafgenWidestWrong : ChangeSpec := { name := "leafgenWidest", fn := fun _ => fun
  | [d1, d2, d3, d4] => { results := [.lit (.bool false)], args := [d1, d2, d3, d4] }
  | _ => none }
def LeafgenWidestWrongFalsely : Prop := leafgenWidestRow.holds Try.pinned (OpenSpec.ofChange leafgenWidestWrong)

/-- 'kedgelaw07.LeafgenIs': WHATEVER THE INPUT: true; the input reads as it did. -/
def leafgenIsSpec : ChangeSpec := { name := "leafgenIs", fn := fun _ => fun
  | [d1, d2, d3, d4] => { results := [.lit (.bool true)], args := [d1, d2, d3, d4] }
  | _ => none }
def leafgenIsRow : OpenClaim := { program := "ytapiffkeclnbbaa", sum := "71ea567330c685f337adbc2cc86c82f41f45756a1c9f9054de22fd614e90e06e", func := "kedge/kedgelaw07.LeafgenIs", spec := "leafgenIs", unfollowed := true, recurses := true, apart := false }
def LeafgenIsSaid : Prop := leafgenIsRow.holds Try.pinned (OpenSpec.ofChange leafgenIsSpec)

/-- ITS FALSE NEIGHBOUR: 'it returns false'. Refute it at one input. -/
def leafgenIsWrong : ChangeSpec := { name := "leafgenIs", fn := fun _ => fun
  | [d1, d2, d3, d4] => { results := [.lit (.bool false)], args := [d1, d2, d3, d4] }
  | _ => none }
def LeafgenIsWrongFalsely : Prop := leafgenIsRow.holds Try.pinned (OpenSpec.ofChange leafgenIsWrong)

/-- 'kedgelaw07.LeafgenGood': WHATEVER THE INPUT: true; the input reads as it did. -/
def leafgenGoodSpec : ChangeSpec := { name := "leafgenGood", fn := fun _ => fun
  | [d1, d2] => { results := [.lit (.bool true)], args := [d1, d2] }
  | _ => none }
def leafgenGoodRow : OpenClaim := { program := "ytapiffkeclnbbaa", sum := "71ea567330c685f337adbc2cc86c82f41f45756a1c9f9054de22fd614e90e06e", func := "kedge/kedgelaw07.LeafgenGood", spec := "leafgenGood", unfollowed := true, recurses := true, apart := false }
def LeafgenGoodSaid : Prop := leafgenGoodRow.holds Try.pinned (OpenSpec.ofChange leafgenGoodSpec)

/-- ITS FALSE NEIGHBOUR: 'it returns false'. Refute it at one input. -/
def leafgenGoodWrong : ChangeSpec := { name := "leafgenGood", fn := fun _ => fun
  | [d1, d2] => { results := [.lit (.bool false)], args := [d1, d2] }
  | _ => none }
def LeafgenGoodWrongFalsely : Prop := leafgenGoodRow.holds Try.pinned (OpenSpec.ofChange leafgenGoodWrong)

/-- 'kedgelaw07.LeafgenWithin': WHATEVER THE INPUT: true; the input reads as it did. -/
def leafgenWithinSpec : ChangeSpec := { name := "leafgenWithin", fn := fun _ => fun
  | [d1, d2, d3] => { results := [.lit (.bool true)], args := [d1, d2, d3] }
  | _ => none }
def leafgenWithinRow : OpenClaim := { program := "ytapiffkeclnbbaa", sum := "71ea567330c685f337adbc2cc86c82f41f45756a1c9f9054de22fd614e90e06e", func := "kedge/kedgelaw07.LeafgenWithin", spec := "leafgenWithin", unfollowed := true, recurses := true, apart := false }
def LeafgenWithinSaid : Prop := leafgenWithinRow.holds Try.pinned (OpenSpec.ofChange leafgenWithinSpec)

/-- ITS FALSE NEIGHBOUR: 'it returns false'. Refute it at one input. -/
def leafgenWithinWrong : ChangeSpec := { name := "leafgenWithin", fn := fun _ => fun
  | [d1, d2, d3] => { results := [.lit (.bool false)], args := [d1, d2, d3] }
  | _ => none }
def LeafgenWithinWrongFalsely : Prop := leafgenWithinRow.holds Try.pinned (OpenSpec.ofChange leafgenWithinWrong)

/- THE SECOND FORM. 'bulk': how many values and letters a reading holds, each counted each time it is reached (what is shared counts as often as it is met; a slice's spare places count too). A statement '..UptoSaid' is the law's where the arguments, and the package variables that the reading takes, are together of bulk at most 1048576: NARROWER than '..Said'. Prove '..Said' where nothing that the law and all that it calls make is longer than what came in: it says more and counts as full. Else prove '..UptoSaid'. A law counts once. -/
mutual
def uptoBulk {H : Type} : DataW H → Nat
  | .lit (.string bytes) => bytes.length + 1
  | .lit _ => 1
  | .nil => 1
  | .ptr d => uptoBulk d + 1
  | .slice elems spare => uptoBulkAll elems + uptoBulkAll spare + 1
  | .agg parts => uptoBulkAll parts + 1
  | .iface _ d => uptoBulk d + 1
  | .map entries => uptoBulkEntries entries + 1
  | .held _ => 1
def uptoBulkAll {H : Type} : List (DataW H) → Nat
  | [] => 0
  | d :: r => uptoBulk d + uptoBulkAll r
def uptoBulkEntries {H : Type} : List (Lit × DataW H) → Nat
  | [] => 0
  | x :: r => uptoBulkEntry x + uptoBulkEntries r
def uptoBulkEntry {H : Type} : Lit × DataW H → Nat
  | (.string bytes, d) => bytes.length + uptoBulk d + 1
  | (_, d) => uptoBulk d + 1
 end
def uptoSmall : (H : Type) → List (DataW H) → Bool := fun _ ds => decide (uptoBulkAll ds ≤ 1048576)
def OpenSpec.upto (s : _root_.Go.ChangeSpec) : _root_.Go.OpenSpec := { _root_.Go.OpenSpec.ofChange s with cond := some uptoSmall }

/-- 'kedgelaw14.QueuePlays', WHERE WHAT IT READS IS OF BULK AT MOST 1048576: true; the input reads as it did. -/
def queuePlaysUptoRow : OpenClaim := { program := "ytapiffkeclnbbaa", sum := "71ea567330c685f337adbc2cc86c82f41f45756a1c9f9054de22fd614e90e06e", func := "kedge/kedgelaw14.QueuePlays", spec := "queuePlays", unfollowed := true, recurses := true, apart := false, narrowed := true }
def QueuePlaysUptoSaid : Prop := queuePlaysUptoRow.holds Try.pinned (OpenSpec.upto queuePlaysSpec)

/-- 'kedgelaw14.QueuePicks', WHERE WHAT IT READS IS OF BULK AT MOST 1048576: true; the input reads as it did. -/
def queuePicksUptoRow : OpenClaim := { program := "ytapiffkeclnbbaa", sum := "71ea567330c685f337adbc2cc86c82f41f45756a1c9f9054de22fd614e90e06e", func := "kedge/kedgelaw14.QueuePicks", spec := "queuePicks", unfollowed := true, recurses := true, apart := false, narrowed := true }
def QueuePicksUptoSaid : Prop := queuePicksUptoRow.holds Try.pinned (OpenSpec.upto queuePicksSpec)

/-- 'kedgelaw14.QueueOnce', WHERE WHAT IT READS IS OF BULK AT MOST 1048576: true; the input reads as it did. -/
def queueOnceUptoRow : OpenClaim := { program := "ytapiffkeclnbbaa", sum := "71ea567330c685f337adbc2cc86c82f41f45756a1c9f9054de22fd614e90e06e", func := "kedge/kedgelaw14.QueueOnce", spec := "queueOnce", unfollowed := true, recurses := true, apart := false, narrowed := true }
def QueueOnceUptoSaid : Prop := queueOnceUptoRow.holds Try.pinned (OpenSpec.upto queueOnceSpec)

/-- 'kedgelaw06.RibNone', WHERE WHAT IT READS IS OF BULK AT MOST 1048576: true; the input reads as it did. -/
def ribNoneUptoRow : OpenClaim := { program := "ytapiffkeclnbbaa", sum := "71ea567330c685f337adbc2cc86c82f41f45756a1c9f9054de22fd614e90e06e", func := "kedge/kedgelaw06.RibNone", spec := "ribNone", unfollowed := true, recurses := true, apart := false, narrowed := true }
def RibNoneUptoSaid : Prop := ribNoneUptoRow.holds Try.pinned (OpenSpec.upto ribNoneSpec)

/-- 'kedgelaw14.QueueNarrows', WHERE WHAT IT READS IS OF BULK AT MOST 1048576: true; the input reads as it did. -/
def queueNarrowsUptoRow : OpenClaim := { program := "ytapiffkeclnbbaa", sum := "71ea567330c685f337adbc2cc86c82f41f45756a1c9f9054de22fd614e90e06e", func := "kedge/kedgelaw14.QueueNarrows", spec := "queueNarrows", unfollowed := true, recurses := true, apart := false, narrowed := true }
def QueueNarrowsUptoSaid : Prop := queueNarrowsUptoRow.holds Try.pinned (OpenSpec.upto queueNarrowsSpec)

/-- 'kedgelaw05.TriePut', WHERE WHAT IT READS IS OF BULK AT MOST 1048576: true; the input reads as it did. -/
def triePutUptoRow : OpenClaim := { program := "ytapiffkeclnbbaa", sum := "71ea567330c685f337adbc2cc86c82f41f45756a1c9f9054de22fd614e90e06e", func := "kedge/kedgelaw05.TriePut", spec := "triePut", unfollowed := true, recurses := true, apart := false, narrowed := true }
def TriePutUptoSaid : Prop := triePutUptoRow.holds Try.pinned (OpenSpec.upto triePutSpec)

/-- 'kedgelaw06.RibDump', WHERE WHAT IT READS IS OF BULK AT MOST 1048576: true; the input reads as it did. -/
def ribDumpUptoRow : OpenClaim := { program := "ytapiffkeclnbbaa", sum := "71ea567330c685f337adbc2cc86c82f41f45756a1c9f9054de22fd614e90e06e", func := "kedge/kedgelaw06.RibDump", spec := "ribDump", unfollowed := true, recurses := true, apart := false, narrowed := true }
def RibDumpUptoSaid : Prop := ribDumpUptoRow.holds Try.pinned (OpenSpec.upto ribDumpSpec)

/-- 'kedgelaw05.TrieGone', WHERE WHAT IT READS IS OF BULK AT MOST 1048576: true; the input reads as it did. -/
def trieGoneUptoRow : OpenClaim := { program := "ytapiffkeclnbbaa", sum := "71ea567330c685f337adbc2cc86c82f41f45756a1c9f9054de22fd614e90e06e", func := "kedge/kedgelaw05.TrieGone", spec := "trieGone", unfollowed := true, recurses := true, apart := false, narrowed := true }
def TrieGoneUptoSaid : Prop := trieGoneUptoRow.holds Try.pinned (OpenSpec.upto trieGoneSpec)

/-- 'kedgelaw05.TrieBound', WHERE WHAT IT READS IS OF BULK AT MOST 1048576: true; the input reads as it did. -/
def trieBoundUptoRow : OpenClaim := { program := "ytapiffkeclnbbaa", sum := "71ea567330c685f337adbc2cc86c82f41f45756a1c9f9054de22fd614e90e06e", func := "kedge/kedgelaw05.TrieBound", spec := "trieBound", unfollowed := true, recurses := true, apart := false, narrowed := true }
def TrieBoundUptoSaid : Prop := trieBoundUptoRow.holds Try.pinned (OpenSpec.upto trieBoundSpec)

/-- 'kedgelaw05.TrieUnder', WHERE WHAT IT READS IS OF BULK AT MOST 1048576: true; the input reads as it did. -/
def trieUnderUptoRow : OpenClaim := { program := "ytapiffkeclnbbaa", sum := "71ea567330c685f337adbc2cc86c82f41f45756a1c9f9054de22fd614e90e06e", func := "kedge/kedgelaw05.TrieUnder", spec := "trieUnder", unfollowed := true, recurses := true, apart := false, narrowed := true }
def TrieUnderUptoSaid : Prop := trieUnderUptoRow.holds Try.pinned (OpenSpec.upto trieUnderSpec)

/-- 'kedgelaw05.TriePlays', WHERE WHAT IT READS IS OF BULK AT MOST 1048576: true; the input reads as it did. -/
def triePlaysUptoRow : OpenClaim := { program := "ytapiffkeclnbbaa", sum := "71ea567330c685f337adbc2cc86c82f41f45756a1c9f9054de22fd614e90e06e", func := "kedge/kedgelaw05.TriePlays", spec := "triePlays", unfollowed := true, recurses := true, apart := false, narrowed := true }
def TriePlaysUptoSaid : Prop := triePlaysUptoRow.holds Try.pinned (OpenSpec.upto triePlaysSpec)

/-- 'kedgelaw05.TrieNone', WHERE WHAT IT READS IS OF BULK AT MOST 1048576: true; the input reads as it did. -/
def trieNoneUptoRow : OpenClaim := { program := "ytapiffkeclnbbaa", sum := "71ea567330c685f337adbc2cc86c82f41f45756a1c9f9054de22fd614e90e06e", func := "kedge/kedgelaw05.TrieNone", spec := "trieNone", unfollowed := true, recurses := true, apart := false, narrowed := true }
def TrieNoneUptoSaid : Prop := trieNoneUptoRow.holds Try.pinned (OpenSpec.upto trieNoneSpec)

/-- 'kedgelaw07.LeafgenWidest', WHERE WHAT IT READS IS OF BULK AT MOST 1048576: true; the input reads as it did. -/
def leafgenWidestUptoRow : OpenClaim := { program := "ytapiffkeclnbbaa", sum := "71ea567330c685f337adbc2cc86c82f41f45756a1c9f9054de22fd614e90e06e", func := "kedge/kedgelaw07.LeafgenWidest", spec := "leafgenWidest", unfollowed := true, recurses := true, apart := false, narrowed := true }
def LeafgenWidestUptoSaid : Prop := leafgenWidestUptoRow.holds Try.pinned (OpenSpec.upto leafgenWidestSpec)

/-- 'kedgelaw07.LeafgenIs', WHERE WHAT IT READS IS OF BULK AT MOST 1048576: true; the input reads as it did. -/
def leafgenIsUptoRow : OpenClaim := { program := "ytapiffkeclnbbaa", sum := "71ea567330c685f337adbc2cc86c82f41f45756a1c9f9054de22fd614e90e06e", func := "kedge/kedgelaw07.LeafgenIs", spec := "leafgenIs", unfollowed := true, recurses := true, apart := false, narrowed := true }
def LeafgenIsUptoSaid : Prop := leafgenIsUptoRow.holds Try.pinned (OpenSpec.upto leafgenIsSpec)

/-- 'kedgelaw07.LeafgenGood', WHERE WHAT IT READS IS OF BULK AT MOST 1048576: true; the input reads as it did. -/
def leafgenGoodUptoRow : OpenClaim := { program := "ytapiffkeclnbbaa", sum := "71ea567330c685f337adbc2cc86c82f41f45756a1c9f9054de22fd614e90e06e", func := "kedge/kedgelaw07.LeafgenGood", spec := "leafgenGood", unfollowed := true, recurses := true, apart := false, narrowed := true }
def LeafgenGoodUptoSaid : Prop := leafgenGoodUptoRow.holds Try.pinned (OpenSpec.upto leafgenGoodSpec)

/-- 'kedgelaw07.LeafgenWithin', WHERE WHAT IT READS IS OF BULK AT MOST 1048576: true; the input reads as it did. -/
def leafgenWithinUptoRow : OpenClaim := { program := "ytapiffkeclnbbaa", sum := "71ea567330c685f337adbc2cc86c82f41f45756a1c9f9054de22fd614e90e06e", func := "kedge/kedgelaw07.LeafgenWithin", spec := "leafgenWithin", unfollowed := true, recurses := true, apart := false, narrowed := true }
def LeafgenWithinUptoSaid : Prop := leafgenWithinUptoRow.holds Try.pinned (OpenSpec.upto leafgenWithinSpec)

end Rows
end Go.Proofs.Ytapiffkeclnbbaa
