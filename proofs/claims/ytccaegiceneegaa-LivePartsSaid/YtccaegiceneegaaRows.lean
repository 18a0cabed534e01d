/-
  No cell of these rows narrows 'for every input' (looked for: loops, veiled, ifaces, maps, wideKeys, modest, calm, conditions, laid).
  DERIVED. THE GIVEN ROWS OF THIS SEAT. 10 by the template 'for every input the law returns true; each argument reads behind the call as it read before'; 0 by the template 'total and deterministic' (their statements: YtccaegiceneegaaTotals.lean).
  GIVEN WITH THE SEED: the statements are not yours to turn. If you find one false, say at which input.
  Laid BY PROGRAM, IN A SANDBOX (cutbox-rows.mjs): the forced cells as the released guide's own fill.sh prints them over the translation a68e45155a0b6b43… (all of the seat's roots in one cut). By AI agents, Wed Nov 11 2026. No macro, syntax, notation, axiom, sorry.
-/
import Derived.Test.YtccaegiceneegaaChecked
import GoSem.Claim
import GoSem.ClaimJoined
import GoSem.ClaimMapViews
import Derived.JoinedTies
import Derived.KernelRfl
namespace Go.Proofs.Ytccaegiceneegaa
/- THE CELL 'sum', in the pinned program and in every row, IS THE sha256 OF THE DUMP (.gsa) THAT YtccaegiceneegaaProg.lean LOADS. Nothing in Lean hashes anything: it is a label: what it is worth is what the hold of that sum in a sandbox is worth. -/
noncomputable def Try.pinned : Pinned := { name := "ytccaegiceneegaa", sum := "a68e45155a0b6b43dd0c0de82839238e7f8741ed5688ea0448ccbb46b0f432d9", checked := Try.checked }
namespace Rows
def none {H : Type} : Left H := { results := [], args := [] }

/-- 'dormouselaw06.SpanMixed': WHATEVER THE INPUT: true; the input reads as it did. -/
def spanMixedSpec : ChangeSpec := { name := "spanMixed", fn := fun _ => fun
  | [d1, d2, d3] => { results := [.lit (.bool true)], args := [d1, d2, d3] }
  | _ => none }
def spanMixedRow : OpenClaim := { program := "ytccaegiceneegaa", sum := "a68e45155a0b6b43dd0c0de82839238e7f8741ed5688ea0448ccbb46b0f432d9", func := "dormouse/dormouselaw06.SpanMixed", spec := "spanMixed", inPlace := ["internal/abi.NoEscape", "internal/bytealg.MakeNoZero"], plainKeys := false, apart := false }
def SpanMixedSaid : Prop := spanMixedRow.holds Try.pinned (OpenSpec.ofChange spanMixedSpec)

/-- ITS FALSE NEIGHBOUR: 'it returns false'. Refute it at one input. -/
def spanMixedWrong : ChangeSpec := { name := "spanMixed", fn := fun _ => fun
  | [d1, d2, d3] => { results := [.lit (.bool false)], args := [d1, d2, d3] }
  | _ => none }
def SpanMixedWrongFalsely : Prop := spanMixedRow.holds Try.pinned (OpenSpec.ofChange spanMixedWrong)

/-- 'dormouselaw07.ArenaPlays': WHATEVER THE INPUT: true; the input reads as it did. -/
def arenaPlaysSpec : ChangeSpec := { name := "arenaPlays", fn := fun _ => fun
  | [d1, d2] => { results := [.lit (.bool true)], args := [d1, d2] }
  | _ => none }
def arenaPlaysRow : OpenClaim := { program := "ytccaegiceneegaa", sum := "a68e45155a0b6b43dd0c0de82839238e7f8741ed5688ea0448ccbb46b0f432d9", func := "dormouse/dormouselaw07.ArenaPlays", spec := "arenaPlays", inPlace := ["internal/abi.NoEscape", "internal/bytealg.MakeNoZero"], unfollowed := true, recurses := true, plainKeys := false, apart := false }
def ArenaPlaysSaid : Prop := arenaPlaysRow.holds Try.pinned (OpenSpec.ofChange arenaPlaysSpec)

/-- ITS FALSE NEIGHBOUR: 'it returns false'. Refute it at one input. -/
def arenaPlaysWrong : ChangeSpec := { name := "arenaPlays", fn := fun _ => fun
  | [d1, d2] => { results := [.lit (.bool false)], args := [d1, d2] }
  | _ => none }
def ArenaPlaysWrongFalsely : Prop := arenaPlaysRow.holds Try.pinned (OpenSpec.ofChange arenaPlaysWrong)

/-- 'dormouselaw22.LiveTells': WHATEVER THE INPUT: true; the input reads as it did. -/
def liveTellsSpec : ChangeSpec := { name := "liveTells", fn := fun _ => fun
  | [d1, d2] => { results := [.lit (.bool true)], args := [d1, d2] }
  | _ => none }
def liveTellsRow : OpenClaim := { program := "ytccaegiceneegaa", sum := "a68e45155a0b6b43dd0c0de82839238e7f8741ed5688ea0448ccbb46b0f432d9", func := "dormouse/dormouselaw22.LiveTells", spec := "liveTells", inPlace := ["internal/abi.NoEscape", "internal/bytealg.MakeNoZero"], unfollowed := true, recurses := true, plainKeys := false, apart := false }
def LiveTellsSaid : Prop := liveTellsRow.holds Try.pinned (OpenSpec.ofChange liveTellsSpec)

/-- ITS FALSE NEIGHBOUR: 'it returns false'. Refute it at one input. -/
def liveTellsWrong : ChangeSpec := { name := "liveTells", fn := fun _ => fun
  | [d1, d2] => { results := [.lit (.bool false)], args := [d1, d2] }
  | _ => none }
def LiveTellsWrongFalsely : Prop := liveTellsRow.holds Try.pinned (OpenSpec.ofChange liveTellsWrong)

/-- 'dormouselaw22.LiveParts': WHATEVER THE INPUT: true; the input reads as it did. -/
def livePartsSpec : ChangeSpec := { name := "liveParts", fn := fun _ => fun
  | [d1, d2, d3] => { results := [.lit (.bool true)], args := [d1, d2, d3] }
  | _ => none }
def livePartsRow : OpenClaim := { program := "ytccaegiceneegaa", sum := "a68e45155a0b6b43dd0c0de82839238e7f8741ed5688ea0448ccbb46b0f432d9", func := "dormouse/dormouselaw22.LiveParts", spec := "liveParts", inPlace := ["internal/abi.NoEscape", "internal/bytealg.MakeNoZero"], unfollowed := true, recurses := true, plainKeys := false, apart := false }
def LivePartsSaid : Prop := livePartsRow.holds Try.pinned (OpenSpec.ofChange livePartsSpec)

/-- ITS FALSE NEIGHBOUR: 'it returns false'. Refute it at one input. -/
def livePartsWrong : ChangeSpec := { name := "liveParts", fn := fun _ => fun
  | [d1, d2, d3] => { results := [.lit (.bool false)], args := [d1, d2, d3] }
  | _ => none }
def LivePartsWrongFalsely : Prop := livePartsRow.holds Try.pinned (OpenSpec.ofChange livePartsWrong)

/-- 'dormouselaw22.LiveChain': WHATEVER THE INPUT: true; the input reads as it did. -/
def liveChainSpec : ChangeSpec := { name := "liveChain", fn := fun _ => fun
  | [d1, d2, d3] => { results := [.lit (.bool true)], args := [d1, d2, d3] }
  | _ => none }
def liveChainRow : OpenClaim := { program := "ytccaegiceneegaa", sum := "a68e45155a0b6b43dd0c0de82839238e7f8741ed5688ea0448ccbb46b0f432d9", func := "dormouse/dormouselaw22.LiveChain", spec := "liveChain", inPlace := ["internal/abi.NoEscape", "internal/bytealg.MakeNoZero"], unfollowed := true, recurses := true, plainKeys := false, apart := false }
def LiveChainSaid : Prop := liveChainRow.holds Try.pinned (OpenSpec.ofChange liveChainSpec)

/-- ITS FALSE NEIGHBOUR: 'it returns false'. Refute it at one input. -/
def liveChainWrong : ChangeSpec := { name := "liveChain", fn := fun _ => fun
  | [d1, d2, d3] => { results := [.lit (.bool false)], args := [d1, d2, d3] }
  | _ => none }
def LiveChainWrongFalsely : Prop := liveChainRow.holds Try.pinned (OpenSpec.ofChange liveChainWrong)

/-- 'dormouselaw22.LiveNone': WHATEVER THE INPUT: true; the input reads as it did. -/
def liveNoneSpec : ChangeSpec := { name := "liveNone", fn := fun _ => fun
  | [d1, d2] => { results := [.lit (.bool true)], args := [d1, d2] }
  | _ => none }
def liveNoneRow : OpenClaim := { program := "ytccaegiceneegaa", sum := "a68e45155a0b6b43dd0c0de82839238e7f8741ed5688ea0448ccbb46b0f432d9", func := "dormouse/dormouselaw22.LiveNone", spec := "liveNone", inPlace := ["internal/abi.NoEscape", "internal/bytealg.MakeNoZero"], unfollowed := true, recurses := true, plainKeys := false, apart := false }
def LiveNoneSaid : Prop := liveNoneRow.holds Try.pinned (OpenSpec.ofChange liveNoneSpec)

/-- ITS FALSE NEIGHBOUR: 'it returns false'. Refute it at one input. -/
def liveNoneWrong : ChangeSpec := { name := "liveNone", fn := fun _ => fun
  | [d1, d2] => { results := [.lit (.bool false)], args := [d1, d2] }
  | _ => none }
def LiveNoneWrongFalsely : Prop := liveNoneRow.holds Try.pinned (OpenSpec.ofChange liveNoneWrong)

/-- 'dormouselaw11.ViewWords': WHATEVER THE INPUT: true; the input reads as it did. -/
def viewWordsSpec : ChangeSpec := { name := "viewWords", fn := fun _ => fun
  | [d1, d2] => { results := [.lit (.bool true)], args := [d1, d2] }
  | _ => none }
def viewWordsRow : OpenClaim := { program := "ytccaegiceneegaa", sum := "a68e45155a0b6b43dd0c0de82839238e7f8741ed5688ea0448ccbb46b0f432d9", func := "dormouse/dormouselaw11.ViewWords", spec := "viewWords", inPlace := ["internal/abi.NoEscape", "internal/bytealg.MakeNoZero"], plainKeys := false, apart := false }
def ViewWordsSaid : Prop := viewWordsRow.holds Try.pinned (OpenSpec.ofChange viewWordsSpec)

/-- ITS FALSE NEIGHBOUR: 'it returns false'. Refute it at one input. -/
def viewWordsWrong : ChangeSpec := { name := "viewWords", fn := fun _ => fun
  | [d1, d2] => { results := [.lit (.bool false)], args := [d1, d2] }
  | _ => none }
def ViewWordsWrongFalsely : Prop := viewWordsRow.holds Try.pinned (OpenSpec.ofChange viewWordsWrong)

/-- 'dormouselaw11.ViewBack': WHATEVER THE INPUT: true; the input reads as it did. -/
def viewBackSpec : ChangeSpec := { name := "viewBack", fn := fun _ => fun
  | [d1, d2, d3] => { results := [.lit (.bool true)], args := [d1, d2, d3] }
  | _ => none }
def viewBackRow : OpenClaim := { program := "ytccaegiceneegaa", sum := "a68e45155a0b6b43dd0c0de82839238e7f8741ed5688ea0448ccbb46b0f432d9", func := "dormouse/dormouselaw11.ViewBack", spec := "viewBack", inPlace := ["internal/abi.NoEscape", "internal/bytealg.MakeNoZero"], unfollowed := true, recurses := true, plainKeys := false, apart := false }
def ViewBackSaid : Prop := viewBackRow.holds Try.pinned (OpenSpec.ofChange viewBackSpec)

/-- ITS FALSE NEIGHBOUR: 'it returns false'. Refute it at one input. -/
def viewBackWrong : ChangeSpec := { name := "viewBack", fn := fun _ => fun
  | [d1, d2, d3] => { results := [.lit (.bool false)], args := [d1, d2, d3] }
  | _ => none }
def ViewBackWrongFalsely : Prop := viewBackRow.holds Try.pinned (OpenSpec.ofChange viewBackWrong)

/-- 'dormouselaw09.HeapAllots': WHATEVER THE INPUT: true; the input reads as it did. -/
def heapAllotsSpec : ChangeSpec := { name := "heapAllots", fn := fun _ => fun
  | [d1, d2, d3] => { results := [.lit (.bool true)], args := [d1, d2, d3] }
  | _ => none }
def heapAllotsRow : OpenClaim := { program := "ytccaegiceneegaa", sum := "a68e45155a0b6b43dd0c0de82839238e7f8741ed5688ea0448ccbb46b0f432d9", func := "dormouse/dormouselaw09.HeapAllots", spec := "heapAllots", inPlace := ["internal/abi.NoEscape", "internal/bytealg.MakeNoZero"], plainKeys := false, apart := false }
def HeapAllotsSaid : Prop := heapAllotsRow.holds Try.pinned (OpenSpec.ofChange heapAllotsSpec)

/-- ITS FALSE NEIGHBOUR: 'it returns false'. Refute it at one input. -/
def heapAllotsWrong : ChangeSpec := { name := "heapAllots", fn := fun _ => fun
  | [d1, d2, d3] => { results := [.lit (.bool false)], args := [d1, d2, d3] }
  | _ => none }
def HeapAllotsWrongFalsely : Prop := heapAllotsRow.holds Try.pinned (OpenSpec.ofChange heapAllotsWrong)

/-- 'dormouselaw09.HeapFinals': WHATEVER THE INPUT: true; the input reads as it did. -/
def heapFinalsSpec : ChangeSpec := { name := "heapFinals", fn := fun _ => fun
  | [d1, d2] => { results := [.lit (.bool true)], args := [d1, d2] }
  | _ => none }
def heapFinalsRow : OpenClaim := { program := "ytccaegiceneegaa", sum := "a68e45155a0b6b43dd0c0de82839238e7f8741ed5688ea0448ccbb46b0f432d9", func := "dormouse/dormouselaw09.HeapFinals", spec := "heapFinals", inPlace := ["internal/abi.NoEscape", "internal/bytealg.MakeNoZero"], unfollowed := true, recurses := true, plainKeys := false, apart := false }
def HeapFinalsSaid : Prop := heapFinalsRow.holds Try.pinned (OpenSpec.ofChange heapFinalsSpec)

/-- ITS FALSE NEIGHBOUR: 'it returns false'. Refute it at one input. -/
def heapFinalsWrong : ChangeSpec := { name := "heapFinals", fn := fun _ => fun
  | [d1, d2] => { results := [.lit (.bool false)], args := [d1, d2] }
  | _ => none }
def HeapFinalsWrongFalsely : Prop := heapFinalsRow.holds Try.pinned (OpenSpec.ofChange heapFinalsWrong)

/- THE SECOND FORM. 'bulk': how many values and letters a reading holds, each counted each time it is reached (what is shared counts as often as it is met; a slice's spare places count too). A statement '..UptoSaid' is the law's where the arguments, and the package variables that the reading takes, are together of bulk at most 1048576: NARROWER than '..Said'. Prove '..Said' where nothing that the law and all that it calls make is longer than what came in: it says more and counts as full. Else prove '..UptoSaid'. A law counts once. -/
mutual
def uptoBulk {H : Type} : DataW H → Nat
  | .lit (.string bytes) => bytes.length + 1
  | .lit _ => 1
  | .nil => 1
  | .ptr d => uptoBulk d + 1
  | .slice elems spare => uptoBulkAll elems + uptoBulkAll spare + 1
  | .agg parts => uptoBulkAll parts + 1
  | .iface _ d => uptoBulk d + 1
  | .map entries => uptoBulkEntries entries + 1
  | .held _ => 1
def uptoBulkAll {H : Type} : List (DataW H) → Nat
  | [] => 0
  | d :: r => uptoBulk d + uptoBulkAll r
def uptoBulkEntries {H : Type} : List (Lit × DataW H) → Nat
  | [] => 0
  | x :: r => uptoBulkEntry x + uptoBulkEntries r
def uptoBulkEntry {H : Type} : Lit × DataW H → Nat
  | (.string bytes, d) => bytes.length + uptoBulk d + 1
  | (_, d) => uptoBulk d + 1
 end
def uptoSmall : (H : Type) → List (DataW H) → Bool := fun _ ds => decide (uptoBulkAll ds ≤ 1048576)
def OpenSpec.upto (s : _root_.Go.ChangeSpec) : _root_.Go.OpenSpec := { _root_.Go.OpenSpec.ofChange s with cond := some uptoSmall }

/-- 'dormouselaw06.SpanMixed', WHERE WHAT IT READS IS OF BULK AT MOST 1048576: true; the input reads as it did. -/
def spanMixedUptoRow : OpenClaim := { program := "ytccaegiceneegaa", sum := "a68e45155a0b6b43dd0c0de82839238e7f8741ed5688ea0448ccbb46b0f432d9", func := "dormouse/dormouselaw06.SpanMixed", spec := "spanMixed", inPlace := ["internal/abi.NoEscape", "internal/bytealg.MakeNoZero"], plainKeys := false, apart := false, narrowed := true }
def SpanMixedUptoSaid : Prop := spanMixedUptoRow.holds Try.pinned (OpenSpec.upto spanMixedSpec)

/-- 'dormouselaw07.ArenaPlays', WHERE WHAT IT READS IS OF BULK AT MOST 1048576: true; the input reads as it did. -/
def arenaPlaysUptoRow : OpenClaim := { program := "ytccaegiceneegaa", sum := "a68e45155a0b6b43dd0c0de82839238e7f8741ed5688ea0448ccbb46b0f432d9", func := "dormouse/dormouselaw07.ArenaPlays", spec := "arenaPlays", inPlace := ["internal/abi.NoEscape", "internal/bytealg.MakeNoZero"], unfollowed := true, recurses := true, plainKeys := false, apart := false, narrowed := true }
def ArenaPlaysUptoSaid : Prop := arenaPlaysUptoRow.holds Try.pinned (OpenSpec.upto arenaPlaysSpec)

/-- 'dormouselaw22.LiveTells', WHERE WHAT IT READS IS OF BULK AT MOST 1048576: true; the input reads as it did. -/
def liveTellsUptoRow : OpenClaim := { program := "ytccaegiceneegaa", sum := "a68e45155a0b6b43dd0c0de82839238e7f8741ed5688ea0448ccbb46b0f432d9", func := "dormouse/dormouselaw22.LiveTells", spec := "liveTells", inPlace := ["internal/abi.NoEscape", "internal/bytealg.MakeNoZero"], unfollowed := true, recurses := true, plainKeys := false, apart := false, narrowed := true }
def LiveTellsUptoSaid : Prop := liveTellsUptoRow.holds Try.pinned (OpenSpec.upto liveTellsSpec)

/-- 'dormouselaw22.LiveParts', WHERE WHAT IT READS IS OF BULK AT MOST 1048576: true; the input reads as it did. -/
def livePartsUptoRow : OpenClaim := { program := "ytccaegiceneegaa", sum := "a68e45155a0b6b43dd0c0de82839238e7f8741ed5688ea0448ccbb46b0f432d9", func := "dormouse/dormouselaw22.LiveParts", spec := "liveParts", inPlace := ["internal/abi.NoEscape", "internal/bytealg.MakeNoZero"], unfollowed := true, recurses := true, plainKeys := false, apart := false, narrowed := true }
def LivePartsUptoSaid : Prop := livePartsUptoRow.holds Try.pinned (OpenSpec.upto livePartsSpec)

/-- 'dormouselaw22.LiveChain', WHERE WHAT IT READS IS OF BULK AT MOST 1048576: true; the input reads as it did. -/
def liveChainUptoRow : OpenClaim := { program := "ytccaegiceneegaa", sum := "a68e45155a0b6b43dd0c0de82839238e7f8741ed5688ea0448ccbb46b0f432d9", func := "dormouse/dormouselaw22.LiveChain", spec := "liveChain", inPlace := ["internal/abi.NoEscape", "internal/bytealg.MakeNoZero"], unfollowed := true, recurses := true, plainKeys := false, apart := false, narrowed := true }
def LiveChainUptoSaid : Prop := liveChainUptoRow.holds Try.pinned (OpenSpec.upto liveChainSpec)

/-- 'dormouselaw22.LiveNone', WHERE WHAT IT READS IS OF BULK AT MOST 1048576: true; the input reads as it did. -/
def liveNoneUptoRow : OpenClaim := { program := "ytccaegiceneegaa", sum := "a68e45155a0b6b43dd0c0de82839238e7f8741ed5688ea0448ccbb46b0f432d9", func := "dormouse/dormouselaw22.LiveNone", spec := "liveNone", inPlace := ["internal/abi.NoEscape", "internal/bytealg.MakeNoZero"], unfollowed := true, recurses := true, plainKeys := false, apart := false, narrowed := true }
def LiveNoneUptoSaid : Prop := liveNoneUptoRow.holds Try.pinned (OpenSpec.upto liveNoneSpec)

/-- 'dormouselaw11.ViewWords', WHERE WHAT IT READS IS OF BULK AT MOST 1048576: true; the input reads as it did. -/
def viewWordsUptoRow : OpenClaim := { program := "ytccaegiceneegaa", sum := "a68e45155a0b6b43dd0c0de82839238e7f8741ed5688ea0448ccbb46b0f432d9", func := "dormouse/dormouselaw11.ViewWords", spec := "viewWords", inPlace := ["internal/abi.NoEscape", "internal/bytealg.MakeNoZero"], plainKeys := false, apart := false, narrowed := true }
def ViewWordsUptoSaid : Prop := viewWordsUptoRow.holds Try.pinned (OpenSpec.upto viewWordsSpec)

/-- 'dormouselaw11.ViewBack', WHERE WHAT IT READS IS OF BULK AT MOST 1048576: true; the input reads as it did. -/
def viewBackUptoRow : OpenClaim := { program := "ytccaegiceneegaa", sum := "a68e45155a0b6b43dd0c0de82839238e7f8741ed5688ea0448ccbb46b0f432d9", func := "dormouse/dormouselaw11.ViewBack", spec := "viewBack", inPlace := ["internal/abi.NoEscape", "internal/bytealg.MakeNoZero"], unfollowed := true, recurses := true, plainKeys := false, apart := false, narrowed := true }
def ViewBackUptoSaid : Prop := viewBackUptoRow.holds Try.pinned (OpenSpec.upto viewBackSpec)

/-- 'dormouselaw09.HeapAllots', WHERE WHAT IT READS IS OF BULK AT MOST 1048576: true; the input reads as it did. -/
def heapAllotsUptoRow : OpenClaim := { program := "ytccaegiceneegaa", sum := "a68e45155a0b6b43dd0c0de82839238e7f8741ed5688ea0448ccbb46b0f432d9", func := "dormouse/dormouselaw09.HeapAllots", spec := "heapAllots", inPlace := ["internal/abi.NoEscape", "internal/bytealg.MakeNoZero"], plainKeys := false, apart := false, narrowed := true }
def HeapAllotsUptoSaid : Prop := heapAllotsUptoRow.holds Try.pinned (OpenSpec.upto heapAllotsSpec)

/-- 'dormouselaw09.HeapFinals', WHERE WHAT IT READS IS OF BULK AT MOST 1048576: true; the input reads as it did. -/
def heapFinalsUptoRow : OpenClaim := { program := "ytccaegiceneegaa", sum := "a68e45155a0b6b43dd0c0de82839238e7f8741ed5688ea0448ccbb46b0f432d9", func := "dormouse/dormouselaw09.HeapFinals", spec := "heapFinals", inPlace := ["internal/abi.NoEscape", "internal/bytealg.MakeNoZero"], unfollowed := true, recurses := true, plainKeys := false, apart := false, narrowed := true }
def HeapFinalsUptoSaid : Prop := heapFinalsUptoRow.holds Try.pinned (OpenSpec.upto heapFinalsSpec)

end Rows
end Go.Proofs.Ytccaegiceneegaa
