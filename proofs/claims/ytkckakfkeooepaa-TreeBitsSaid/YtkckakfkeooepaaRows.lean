/-
  No cell of these rows narrows 'for every input' (looked for: loops, veiled, ifaces, maps, wideKeys, modest, calm, conditions, laid).
  DERIVED. THE GIVEN ROWS OF THIS SEAT. 11 by the template 'for every input the law returns true; each argument reads behind the call as it read before'; 0 by the template 'total and deterministic' (their statements: YtkckakfkeooepaaTotals.lean).
  GIVEN WITH THE SEED: the statements are not yours to turn. If you find one false, say at which input.
  Laid BY PROGRAM, IN A SANDBOX (cutbox-rows.mjs): the forced cells as the released guide's own fill.sh prints them over the translation 4530f67c19acff2b… (all of the seat's roots in one cut). By AI agents, Wed Nov 11 2026. No macro, syntax, notation, axiom, sorry.
-/
import Derived.Test.YtkckakfkeooepaaChecked
import GoSem.Claim
import GoSem.ClaimJoined
import GoSem.ClaimMapViews
import Derived.JoinedTies
import Derived.KernelRfl
namespace Go.Proofs.Ytkckakfkeooepaa
/- THE CELL 'sum', in the pinned program and in every row, IS THE sha256 OF THE DUMP (.gsa) THAT YtkckakfkeooepaaProg.lean LOADS. Nothing in Lean hashes anything: it is a label: what it is worth is what the hold of that sum in a sandbox is worth. -/
noncomputable def Try.pinned : Pinned := { name := "ytkckakfkeooepaa", sum := "4530f67c19acff2b7a6bea82b5563ae86ae8a2ef1b17832e02eab16d2e785bb5", checked := Try.checked }
namespace Rows
def none {H : Type} : Left H := { results := [], args := [] }

/-- 'postmarklaw10.HeadTells': WHATEVER THE INPUT: true; the input reads as it did. -/
def headTellsSpec : ChangeSpec := { name := "headTells", fn := fun _ => fun
  | [d1, d2, d3, d4, d5, d6, d7, d8] => { results := [.lit (.bool true)], args := [d1, d2, d3, d4, d5, d6, d7, d8] }
  | _ => none }
def headTellsRow : OpenClaim := { program := "ytkckakfkeooepaa", sum := "4530f67c19acff2b7a6bea82b5563ae86ae8a2ef1b17832e02eab16d2e785bb5", func := "postmark/postmarklaw10.HeadTells", spec := "headTells", recurses := true, named := ["math/bits.divideError", "math/bits.overflowError"], apart := false }
def HeadTellsSaid : Prop := headTellsRow.holds Try.pinned (OpenSpec.ofChange headTellsSpec)

/-- ITS FALSE NEIGHBOUR: 'it returns false'. Refute it at one input. -/
def headTellsWrong : ChangeSpec := { name := "headTells", fn := fun _ => fun
  | [d1, d2, d3, d4, d5, d6, d7, d8] => { results := [.lit (.bool false)], args := [d1, d2, d3, d4, d5, d6, d7, d8] }
  | _ => none }
def HeadTellsWrongFalsely : Prop := headTellsRow.holds Try.pinned (OpenSpec.ofChange headTellsWrong)

/-- 'postmarklaw6.TreeTells': WHATEVER THE INPUT: true; the input reads as it did. -/
def treeTellsSpec : ChangeSpec := { name := "treeTells", fn := fun _ => fun
  | [d1, d2, d3, d4, d5, d6, d7, d8, d9] => { results := [.lit (.bool true)], args := [d1, d2, d3, d4, d5, d6, d7, d8, d9] }
  | _ => none }
def treeTellsRow : OpenClaim := { program := "ytkckakfkeooepaa", sum := "4530f67c19acff2b7a6bea82b5563ae86ae8a2ef1b17832e02eab16d2e785bb5", func := "postmark/postmarklaw6.TreeTells", spec := "treeTells", inPlace := ["internal/bytealg.Compare"], unfollowed := true, recurses := true, apart := false }
def TreeTellsSaid : Prop := treeTellsRow.holds Try.pinned (OpenSpec.ofChange treeTellsSpec)

/-- ITS FALSE NEIGHBOUR: 'it returns false'. Refute it at one input. -/
def treeTellsWrong : ChangeSpec := { name := "treeTells", fn := fun _ => fun
  | [d1, d2, d3, d4, d5, d6, d7, d8, d9] => { results := [.lit (.bool false)], args := [d1, d2, d3, d4, d5, d6, d7, d8, d9] }
  | _ => none }
def TreeTellsWrongFalsely : Prop := treeTellsRow.holds Try.pinned (OpenSpec.ofChange treeTellsWrong)

/-- 'postmarklaw6.TreeOrder': WHATEVER THE INPUT: true; the input reads as it did. -/
def treeOrderSpec : ChangeSpec := { name := "treeOrder", fn := fun _ => fun
  | [d1, d2] => { results := [.lit (.bool true)], args := [d1, d2] }
  | _ => none }
def treeOrderRow : OpenClaim := { program := "ytkckakfkeooepaa", sum := "4530f67c19acff2b7a6bea82b5563ae86ae8a2ef1b17832e02eab16d2e785bb5", func := "postmark/postmarklaw6.TreeOrder", spec := "treeOrder", inPlace := ["internal/bytealg.Compare"], unfollowed := true, recurses := true, apart := false }
def TreeOrderSaid : Prop := treeOrderRow.holds Try.pinned (OpenSpec.ofChange treeOrderSpec)

/-- ITS FALSE NEIGHBOUR: 'it returns false'. Refute it at one input. -/
def treeOrderWrong : ChangeSpec := { name := "treeOrder", fn := fun _ => fun
  | [d1, d2] => { results := [.lit (.bool false)], args := [d1, d2] }
  | _ => none }
def TreeOrderWrongFalsely : Prop := treeOrderRow.holds Try.pinned (OpenSpec.ofChange treeOrderWrong)

/-- 'postmarklaw6.TreeHalves': WHATEVER THE INPUT: true; the input reads as it did. -/
def treeHalvesSpec : ChangeSpec := { name := "treeHalves", fn := fun _ => fun
  | [d] => { results := [.lit (.bool true)], args := [d] }
  | _ => none }
def treeHalvesRow : OpenClaim := { program := "ytkckakfkeooepaa", sum := "4530f67c19acff2b7a6bea82b5563ae86ae8a2ef1b17832e02eab16d2e785bb5", func := "postmark/postmarklaw6.TreeHalves", spec := "treeHalves", inPlace := ["internal/bytealg.Compare"], unfollowed := true, recurses := true, apart := false }
def TreeHalvesSaid : Prop := treeHalvesRow.holds Try.pinned (OpenSpec.ofChange treeHalvesSpec)

/-- ITS FALSE NEIGHBOUR: 'it returns false'. Refute it at one input. -/
def treeHalvesWrong : ChangeSpec := { name := "treeHalves", fn := fun _ => fun
  | [d] => { results := [.lit (.bool false)], args := [d] }
  | _ => none }
def TreeHalvesWrongFalsely : Prop := treeHalvesRow.holds Try.pinned (OpenSpec.ofChange treeHalvesWrong)

/-- 'postmarklaw6.TreeBits': WHATEVER THE INPUT: true; the input reads as it did. -/
def treeBitsSpec : ChangeSpec := { name := "treeBits", fn := fun _ => fun
  | [d] => { results := [.lit (.bool true)], args := [d] }
  | _ => none }
def treeBitsRow : OpenClaim := { program := "ytkckakfkeooepaa", sum := "4530f67c19acff2b7a6bea82b5563ae86ae8a2ef1b17832e02eab16d2e785bb5", func := "postmark/postmarklaw6.TreeBits", spec := "treeBits", inPlace := ["internal/bytealg.Compare"], unfollowed := true, recurses := true, apart := false }
def TreeBitsSaid : Prop := treeBitsRow.holds Try.pinned (OpenSpec.ofChange treeBitsSpec)

/-- ITS FALSE NEIGHBOUR: 'it returns false'. Refute it at one input. -/
def treeBitsWrong : ChangeSpec := { name := "treeBits", fn := fun _ => fun
  | [d] => { results := [.lit (.bool false)], args := [d] }
  | _ => none }
def TreeBitsWrongFalsely : Prop := treeBitsRow.holds Try.pinned (OpenSpec.ofChange treeBitsWrong)

/-- 'postmarklaw7.ProofTells': WHATEVER THE INPUT: true; the input reads as it did. -/
def proofTellsSpec : ChangeSpec := { name := "proofTells", fn := fun _ => fun
  | [d1, d2, d3, d4, d5, d6, d7] => { results := [.lit (.bool true)], args := [d1, d2, d3, d4, d5, d6, d7] }
  | _ => none }
def proofTellsRow : OpenClaim := { program := "ytkckakfkeooepaa", sum := "4530f67c19acff2b7a6bea82b5563ae86ae8a2ef1b17832e02eab16d2e785bb5", func := "postmark/postmarklaw7.ProofTells", spec := "proofTells", inPlace := ["internal/bytealg.Compare"], unfollowed := true, recurses := true, apart := false }
def ProofTellsSaid : Prop := proofTellsRow.holds Try.pinned (OpenSpec.ofChange proofTellsSpec)

/-- ITS FALSE NEIGHBOUR: 'it returns false'. Refute it at one input. -/
def proofTellsWrong : ChangeSpec := { name := "proofTells", fn := fun _ => fun
  | [d1, d2, d3, d4, d5, d6, d7] => { results := [.lit (.bool false)], args := [d1, d2, d3, d4, d5, d6, d7] }
  | _ => none }
def ProofTellsWrongFalsely : Prop := proofTellsRow.holds Try.pinned (OpenSpec.ofChange proofTellsWrong)

/-- 'postmarklaw7.ProofReads': WHATEVER THE INPUT: true; the input reads as it did. -/
def proofReadsSpec : ChangeSpec := { name := "proofReads", fn := fun _ => fun
  | [d1, d2, d3, d4, d5, d6, d7] => { results := [.lit (.bool true)], args := [d1, d2, d3, d4, d5, d6, d7] }
  | _ => none }
def proofReadsRow : OpenClaim := { program := "ytkckakfkeooepaa", sum := "4530f67c19acff2b7a6bea82b5563ae86ae8a2ef1b17832e02eab16d2e785bb5", func := "postmark/postmarklaw7.ProofReads", spec := "proofReads", inPlace := ["internal/bytealg.Compare"], unfollowed := true, recurses := true, apart := false }
def ProofReadsSaid : Prop := proofReadsRow.holds Try.pinned (OpenSpec.ofChange proofReadsSpec)

/-- ITS FALSE NEIGHBOUR: 'it returns false'. Refute it at one input. -/
def proofReadsWrong : ChangeSpec := { name := "proofReads", fn := fun _ => fun
  | [d1, d2, d3, d4, d5, d6, d7] => { results := [.lit (.bool false)], args := [d1, d2, d3, d4, d5, d6, d7] }
  | _ => none }
def ProofReadsWrongFalsely : Prop := proofReadsRow.holds Try.pinned (OpenSpec.ofChange proofReadsWrong)

/-- 'postmarklaw7.ProofAll': WHATEVER THE INPUT: true; the input reads as it did. -/
def proofAllSpec : ChangeSpec := { name := "proofAll", fn := fun _ => fun
  | [d1, d2] => { results := [.lit (.bool true)], args := [d1, d2] }
  | _ => none }
def proofAllRow : OpenClaim := { program := "ytkckakfkeooepaa", sum := "4530f67c19acff2b7a6bea82b5563ae86ae8a2ef1b17832e02eab16d2e785bb5", func := "postmark/postmarklaw7.ProofAll", spec := "proofAll", inPlace := ["internal/bytealg.Compare"], unfollowed := true, recurses := true, apart := false }
def ProofAllSaid : Prop := proofAllRow.holds Try.pinned (OpenSpec.ofChange proofAllSpec)

/-- ITS FALSE NEIGHBOUR: 'it returns false'. Refute it at one input. -/
def proofAllWrong : ChangeSpec := { name := "proofAll", fn := fun _ => fun
  | [d1, d2] => { results := [.lit (.bool false)], args := [d1, d2] }
  | _ => none }
def ProofAllWrongFalsely : Prop := proofAllRow.holds Try.pinned (OpenSpec.ofChange proofAllWrong)

/-- 'postmarklaw7.ProofBack': WHATEVER THE INPUT: true; the input reads as it did. -/
def proofBackSpec : ChangeSpec := { name := "proofBack", fn := fun _ => fun
  | [d1, d2, d3, d4] => { results := [.lit (.bool true)], args := [d1, d2, d3, d4] }
  | _ => none }
def proofBackRow : OpenClaim := { program := "ytkckakfkeooepaa", sum := "4530f67c19acff2b7a6bea82b5563ae86ae8a2ef1b17832e02eab16d2e785bb5", func := "postmark/postmarklaw7.ProofBack", spec := "proofBack", inPlace := ["internal/bytealg.Compare"], unfollowed := true, recurses := true, apart := false }
def ProofBackSaid : Prop := proofBackRow.holds Try.pinned (OpenSpec.ofChange proofBackSpec)

/-- ITS FALSE NEIGHBOUR: 'it returns false'. Refute it at one input. -/
def proofBackWrong : ChangeSpec := { name := "proofBack", fn := fun _ => fun
  | [d1, d2, d3, d4] => { results := [.lit (.bool false)], args := [d1, d2, d3, d4] }
  | _ => none }
def ProofBackWrongFalsely : Prop := proofBackRow.holds Try.pinned (OpenSpec.ofChange proofBackWrong)

/-- 'postmarklaw7.ProofOne': WHATEVER THE INPUT: true; the input reads as it did. -/
def proofOneSpec : ChangeSpec := { name := "proofOne", fn := fun _ => fun
  | [d1, d2, d3] => { results := [.lit (.bool true)], args := [d1, d2, d3] }
  | _ => none }
def proofOneRow : OpenClaim := { program := "ytkckakfkeooepaa", sum := "4530f67c19acff2b7a6bea82b5563ae86ae8a2ef1b17832e02eab16d2e785bb5", func := "postmark/postmarklaw7.ProofOne", spec := "proofOne", inPlace := ["internal/bytealg.Compare"], unfollowed := true, recurses := true, apart := false }
def ProofOneSaid : Prop := proofOneRow.holds Try.pinned (OpenSpec.ofChange proofOneSpec)

/-- ITS FALSE NEIGHBOUR: 'it returns false'. Refute it at one input. -/
def proofOneWrong : ChangeSpec := { name := "proofOne", fn := fun _ => fun
  | [d1, d2, d3] => { results := [.lit (.bool false)], args := [d1, d2, d3] }
  | _ => none }
def ProofOneWrongFalsely : Prop := proofOneRow.holds Try.pinned (OpenSpec.ofChange proofOneWrong)

/-- 'postmarklaw7.ProofClashes': WHATEVER THE INPUT: true; the input reads as it did. -/
def proofClashesSpec : ChangeSpec := { name := "proofClashes", fn := fun _ => fun
  | [d1, d2, d3, d4, d5, d6, d7] => { results := [.lit (.bool true)], args := [d1, d2, d3, d4, d5, d6, d7] }
  | _ => none }
def proofClashesRow : OpenClaim := { program := "ytkckakfkeooepaa", sum := "4530f67c19acff2b7a6bea82b5563ae86ae8a2ef1b17832e02eab16d2e785bb5", func := "postmark/postmarklaw7.ProofClashes", spec := "proofClashes", inPlace := ["internal/bytealg.Compare"], unfollowed := true, recurses := true, apart := false }
def ProofClashesSaid : Prop := proofClashesRow.holds Try.pinned (OpenSpec.ofChange proofClashesSpec)

/-- ITS FALSE NEIGHBOUR: 'it returns false'. Refute it at one input. -/
def proofClashesWrong : ChangeSpec := { name := "proofClashes", fn := fun _ => fun
  | [d1, d2, d3, d4, d5, d6, d7] => { results := [.lit (.bool false)], args := [d1, d2, d3, d4, d5, d6, d7] }
  | _ => none }
def ProofClashesWrongFalsely : Prop := proofClashesRow.holds Try.pinned (OpenSpec.ofChange proofClashesWrong)

/- THE SECOND FORM. 'bulk': how many values and letters a reading holds, each counted each time it is reached (what is shared counts as often as it is met; a slice's spare places count too). A statement '..UptoSaid' is the law's where the arguments, and the package variables that the reading takes, are together of bulk at most 1048576: NARROWER than '..Said'. Prove '..Said' where nothing that the law and all that it calls make is longer than what came in: it says more and counts as full. Else prove '..UptoSaid'. A law counts once. -/
mutual
def uptoBulk {H : Type} : DataW H → Nat
  | .lit (.string bytes) => bytes.length + 1
  | .lit _ => 1
  | .nil => 1
  | .ptr d => uptoBulk d + 1
  | .slice elems spare => uptoBulkAll elems + uptoBulkAll spare + 1
  | .agg parts => uptoBulkAll parts + 1
  | .iface _ d => uptoBulk d + 1
  | .map entries => uptoBulkEntries entries + 1
  | .held _ => 1
def uptoBulkAll {H : Type} : List (DataW H) → Nat
  | [] => 0
  | d :: r => uptoBulk d + uptoBulkAll r
def uptoBulkEntries {H : Type} : List (Lit × DataW H) → Nat
  | [] => 0
  | x :: r => uptoBulkEntry x + uptoBulkEntries r
def uptoBulkEntry {H : Type} : Lit × DataW H → Nat
  | (.string bytes, d) => bytes.length + uptoBulk d + 1
  | (_, d) => uptoBulk d + 1
 end
def uptoSmall : (H : Type) → List (DataW H) → Bool := fun _ ds => decide (uptoBulkAll ds ≤ 1048576)
def OpenSpec.upto (s : _root_.Go.ChangeSpec) : _root_.Go.OpenSpec := { _root_.Go.OpenSpec.ofChange s with cond := some uptoSmall }

/-- 'postmarklaw10.HeadTells', WHERE WHAT IT READS IS OF BULK AT MOST 1048576: true; the input reads as it did. -/
def headTellsUptoRow : OpenClaim := { program := "ytkckakfkeooepaa", sum := "4530f67c19acff2b7a6bea82b5563ae86ae8a2ef1b17832e02eab16d2e785bb5", func := "postmark/postmarklaw10.HeadTells", spec := "headTells", recurses := true, named := ["math/bits.divideError", "math/bits.overflowError"], apart := false, narrowed := true }
def HeadTellsUptoSaid : Prop := headTellsUptoRow.holds Try.pinned (OpenSpec.upto headTellsSpec)

/-- 'postmarklaw6.TreeTells', WHERE WHAT IT READS IS OF BULK AT MOST 1048576: true; the input reads as it did. -/
def treeTellsUptoRow : OpenClaim := { program := "ytkckakfkeooepaa", sum := "4530f67c19acff2b7a6bea82b5563ae86ae8a2ef1b17832e02eab16d2e785bb5", func := "postmark/postmarklaw6.TreeTells", spec := "treeTells", inPlace := ["internal/bytealg.Compare"], unfollowed := true, recurses := true, apart := false, narrowed := true }
def TreeTellsUptoSaid : Prop := treeTellsUptoRow.holds Try.pinned (OpenSpec.upto treeTellsSpec)

/-- 'postmarklaw6.TreeOrder', WHERE WHAT IT READS IS OF BULK AT MOST 1048576: true; the input reads as it did. -/
def treeOrderUptoRow : OpenClaim := { program := "ytkckakfkeooepaa", sum := "4530f67c19acff2b7a6bea82b5563ae86ae8a2ef1b17832e02eab16d2e785bb5", func := "postmark/postmarklaw6.TreeOrder", spec := "treeOrder", inPlace := ["internal/bytealg.Compare"], unfollowed := true, recurses := true, apart := false, narrowed := true }
def TreeOrderUptoSaid : Prop := treeOrderUptoRow.holds Try.pinned (OpenSpec.upto treeOrderSpec)

/-- 'postmarklaw6.TreeHalves', WHERE WHAT IT READS IS OF BULK AT MOST 1048576: true; the input reads as it did. -/
def treeHalvesUptoRow : OpenClaim := { program := "ytkckakfkeooepaa", sum := "4530f67c19acff2b7a6bea82b5563ae86ae8a2ef1b17832e02eab16d2e785bb5", func := "postmark/postmarklaw6.TreeHalves", spec := "treeHalves", inPlace := ["internal/bytealg.Compare"], unfollowed := true, recurses := true, apart := false, narrowed := true }
def TreeHalvesUptoSaid : Prop := treeHalvesUptoRow.holds Try.pinned (OpenSpec.upto treeHalvesSpec)

/-- 'postmarklaw6.TreeBits', WHERE WHAT IT READS IS OF BULK AT MOST 1048576: true; the input reads as it did. -/
def treeBitsUptoRow : OpenClaim := { program := "ytkckakfkeooepaa", sum := "4530f67c19acff2b7a6bea82b5563ae86ae8a2ef1b17832e02eab16d2e785bb5", func := "postmark/postmarklaw6.TreeBits", spec := "treeBits", inPlace := ["internal/bytealg.Compare"], unfollowed := true, recurses := true, apart := false, narrowed := true }
def TreeBitsUptoSaid : Prop := treeBitsUptoRow.holds Try.pinned (OpenSpec.upto treeBitsSpec)

/-- 'postmarklaw7.ProofTells', WHERE WHAT IT READS IS OF BULK AT MOST 1048576: true; the input reads as it did. -/
def proofTellsUptoRow : OpenClaim := { program := "ytkckakfkeooepaa", sum := "4530f67c19acff2b7a6bea82b5563ae86ae8a2ef1b17832e02eab16d2e785bb5", func := "postmark/postmarklaw7.ProofTells", spec := "proofTells", inPlace := ["internal/bytealg.Compare"], unfollowed := true, recurses := true, apart := false, narrowed := true }
def ProofTellsUptoSaid : Prop := proofTellsUptoRow.holds Try.pinned (OpenSpec.upto proofTellsSpec)

/-- 'postmarklaw7.ProofReads', WHERE WHAT IT READS IS OF BULK AT MOST 1048576: true; the input reads as it did. -/
def proofReadsUptoRow : OpenClaim := { program := "ytkckakfkeooepaa", sum := "4530f67c19acff2b7a6bea82b5563ae86ae8a2ef1b17832e02eab16d2e785bb5", func := "postmark/postmarklaw7.ProofReads", spec := "proofReads", inPlace := ["internal/bytealg.Compare"], unfollowed := true, recurses := true, apart := false, narrowed := true }
def ProofReadsUptoSaid : Prop := proofReadsUptoRow.holds Try.pinned (OpenSpec.upto proofReadsSpec)

/-- 'postmarklaw7.ProofAll', WHERE WHAT IT READS IS OF BULK AT MOST 1048576: true; the input reads as it did. -/
def proofAllUptoRow : OpenClaim := { program := "ytkckakfkeooepaa", sum := "4530f67c19acff2b7a6bea82b5563ae86ae8a2ef1b17832e02eab16d2e785bb5", func := "postmark/postmarklaw7.ProofAll", spec := "proofAll", inPlace := ["internal/bytealg.Compare"], unfollowed := true, recurses := true, apart := false, narrowed := true }
def ProofAllUptoSaid : Prop := proofAllUptoRow.holds Try.pinned (OpenSpec.upto proofAllSpec)

/-- 'postmarklaw7.ProofBack', WHERE WHAT IT READS IS OF BULK AT MOST 1048576: true; the input reads as it did. -/
def proofBackUptoRow : OpenClaim := { program := "ytkckakfkeooepaa", sum := "4530f67c19acff2b7a6bea82b5563ae86ae8a2ef1b17832e02eab16d2e785bb5", func := "postmark/postmarklaw7.ProofBack", spec := "proofBack", inPlace := ["internal/bytealg.Compare"], unfollowed := true, recurses := true, apart := false, narrowed := true }
def ProofBackUptoSaid : Prop := proofBackUptoRow.holds Try.pinned (OpenSpec.upto proofBackSpec)

/-- 'postmarklaw7.ProofOne', WHERE WHAT IT READS IS OF BULK AT MOST 1048576: true; the input reads as it did. -/
def proofOneUptoRow : OpenClaim := { program := "ytkckakfkeooepaa", sum := "4530f67c19acff2b7a6bea82b5563ae86ae8a2ef1b17832e02eab16d2e785bb5", func := "postmark/postmarklaw7.ProofOne", spec := "proofOne", inPlace := ["internal/bytealg.Compare"], unfollowed := true, recurses := true, apart := false, narrowed := true }
def ProofOneUptoSaid : Prop := proofOneUptoRow.holds Try.pinned (OpenSpec.upto proofOneSpec)

/-- 'postmarklaw7.ProofClashes', WHERE WHAT IT READS IS OF BULK AT MOST 1048576: true; the input reads as it did. -/
def proofClashesUptoRow : OpenClaim := { program := "ytkckakfkeooepaa", sum := "4530f67c19acff2b7a6bea82b5563ae86ae8a2ef1b17832e02eab16d2e785bb5", func := "postmark/postmarklaw7.ProofClashes", spec := "proofClashes", inPlace := ["internal/bytealg.Compare"], unfollowed := true, recurses := true, apart := false, narrowed := true }
def ProofClashesUptoSaid : Prop := proofClashesUptoRow.holds Try.pinned (OpenSpec.upto proofClashesSpec)

end Rows
end Go.Proofs.Ytkckakfkeooepaa
