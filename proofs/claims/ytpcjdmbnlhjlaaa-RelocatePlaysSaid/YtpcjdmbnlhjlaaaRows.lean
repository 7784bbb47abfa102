/-
  No cell of these rows narrows 'for every input' (looked for: loops, veiled, ifaces, maps, wideKeys, modest, calm, conditions, laid).
  DERIVED. THE GIVEN ROWS OF THIS SEAT. 4 by the template 'for every input the law returns true; each argument reads behind the call as it read before'; 0 by the template 'total and deterministic' (their statements: YtpcjdmbnlhjlaaaTotals.lean).
  GIVEN WITH THE SEED: the statements are not yours to turn. If you find one false, say at which input.
  Laid BY PROGRAM, IN A SANDBOX (cutbox-rows.mjs): the forced cells as the released guide's own fill.sh prints them over the translation eadb0c1b0d87c7ac… (all of the seat's roots in one cut). By AI agents, Wed Nov 11 2026. No macro, syntax, notation, axiom, sorry.
-/
import Derived.Test.YtpcjdmbnlhjlaaaChecked
import GoSem.Claim
import GoSem.ClaimJoined
import GoSem.ClaimMapViews
import Derived.JoinedTies
import Derived.KernelRfl
namespace Go.Proofs.Ytpcjdmbnlhjlaaa
/- THE CELL 'sum', in the pinned program and in every row, IS THE sha256 OF THE DUMP (.gsa) THAT YtpcjdmbnlhjlaaaProg.lean LOADS. Nothing in Lean hashes anything: it is a label: what it is worth is what the hold of that sum in a sandbox is worth. -/
noncomputable def Try.pinned : Pinned := { name := "ytpcjdmbnlhjlaaa", sum := "eadb0c1b0d87c7ace6b16208e9a04aba63326ac2620e9cc63b1acaf3c30e9ff7", checked := Try.checked }
namespace Rows
def none {H : Type} : Left H := { results := [], args := [] }

/-- 'volumegrouplaw34.RelocatePlays': WHATEVER THE INPUT: true; the input reads as it did. -/
def relocatePlaysSpec : ChangeSpec := { name := "relocatePlays", fn := fun _ => fun
  | [d1, d2, d3] => { results := [.lit (.bool true)], args := [d1, d2, d3] }
  | _ => none }
def relocatePlaysRow : OpenClaim := { program := "ytpcjdmbnlhjlaaa", sum := "eadb0c1b0d87c7ace6b16208e9a04aba63326ac2620e9cc63b1acaf3c30e9ff7", func := "volumegroup/volumegrouplaw34.RelocatePlays", spec := "relocatePlays", unfollowed := true, recurses := true, plainKeys := false, apart := false }
def RelocatePlaysSaid : Prop := relocatePlaysRow.holds Try.pinned (OpenSpec.ofChange relocatePlaysSpec)

/-- ITS FALSE NEIGHBOUR: 'it returns false'. Refute it at one input. -/
def relocatePlaysWrong : ChangeSpec := { name := "relocatePlays", fn := fun _ => fun
  | [d1, d2, d3] => { results := [.lit (.bool false)], args := [d1, d2, d3] }
  | _ => none }
def RelocatePlaysWrongFalsely : Prop := relocatePlaysRow.holds Try.pinned (OpenSpec.ofChange relocatePlaysWrong)

/-- 'volumegrouplaw34.RelocateEnds': WHATEVER THE INPUT: true; the input reads as it did. -/
def relocateEndsSpec : ChangeSpec := { name := "relocateEnds", fn := fun _ => fun
  | [d] => { results := [.lit (.bool true)], args := [d] }
  | _ => none }
def relocateEndsRow : OpenClaim := { program := "ytpcjdmbnlhjlaaa", sum := "eadb0c1b0d87c7ace6b16208e9a04aba63326ac2620e9cc63b1acaf3c30e9ff7", func := "volumegroup/volumegrouplaw34.RelocateEnds", spec := "relocateEnds", unfollowed := true, recurses := true, plainKeys := false, apart := false }
def RelocateEndsSaid : Prop := relocateEndsRow.holds Try.pinned (OpenSpec.ofChange relocateEndsSpec)

/-- ITS FALSE NEIGHBOUR: 'it returns false'. Refute it at one input. -/
def relocateEndsWrong : ChangeSpec := { name := "relocateEnds", fn := fun _ => fun
  | [d] => { results := [.lit (.bool false)], args := [d] }
  | _ => none }
def RelocateEndsWrongFalsely : Prop := relocateEndsRow.holds Try.pinned (OpenSpec.ofChange relocateEndsWrong)

/-- 'volumegrouplaw34.RelocateSound': WHATEVER THE INPUT: true; the input reads as it did. -/
def relocateSoundSpec : ChangeSpec := { name := "relocateSound", fn := fun _ => fun
  | [d1, d2, d3] => { results := [.lit (.bool true)], args := [d1, d2, d3] }
  | _ => none }
def relocateSoundRow : OpenClaim := { program := "ytpcjdmbnlhjlaaa", sum := "eadb0c1b0d87c7ace6b16208e9a04aba63326ac2620e9cc63b1acaf3c30e9ff7", func := "volumegroup/volumegrouplaw34.RelocateSound", spec := "relocateSound", unfollowed := true, recurses := true, plainKeys := false, apart := false }
def RelocateSoundSaid : Prop := relocateSoundRow.holds Try.pinned (OpenSpec.ofChange relocateSoundSpec)

/-- ITS FALSE NEIGHBOUR: 'it returns false'. Refute it at one input. -/
def relocateSoundWrong : ChangeSpec := { name := "relocateSound", fn := fun _ => fun
  | [d1, d2, d3] => { results := [.lit (.bool false)], args := [d1, d2, d3] }
  | _ => none }
def RelocateSoundWrongFalsely : Prop := relocateSoundRow.holds Try.pinned (OpenSpec.ofChange relocateSoundWrong)

/-- 'volumegrouplaw34.RelocateFails': WHATEVER THE INPUT: true; the input reads as it did. -/
def relocateFailsSpec : ChangeSpec := { name := "relocateFails", fn := fun _ => fun
  | [d1, d2] => { results := [.lit (.bool true)], args := [d1, d2] }
  | _ => none }
def relocateFailsRow : OpenClaim := { program := "ytpcjdmbnlhjlaaa", sum := "eadb0c1b0d87c7ace6b16208e9a04aba63326ac2620e9cc63b1acaf3c30e9ff7", func := "volumegroup/volumegrouplaw34.RelocateFails", spec := "relocateFails", unfollowed := true, recurses := true, plainKeys := false, apart := false }
def RelocateFailsSaid : Prop := relocateFailsRow.holds Try.pinned (OpenSpec.ofChange relocateFailsSpec)

/-- ITS FALSE NEIGHBOUR: 'it returns false'. Refute it at one input. -/
def relocateFailsWrong : ChangeSpec := { name := "relocateFails", fn := fun _ => fun
  | [d1, d2] => { results := [.lit (.bool false)], args := [d1, d2] }
  | _ => none }
def RelocateFailsWrongFalsely : Prop := relocateFailsRow.holds Try.pinned (OpenSpec.ofChange relocateFailsWrong)

/- THE SECOND FORM. 'bulk': how many values and letters a reading holds, each counted each time it is reached (what is shared counts as often as it is met; a slice's spare places count too). A statement '..UptoSaid' is the law's where the arguments, and the package variables that the reading takes, are together of bulk at most 1048576: NARROWER than '..Said'. Prove '..Said' where nothing that the law and all that it calls make is longer than what came in: it says more and counts as full. Else prove '..UptoSaid'. A law counts once. -/
mutual
def uptoBulk {H : Type} : DataW H → Nat
  | .lit (.string bytes) => bytes.length + 1
  | .lit _ => 1
  | .nil => 1
  | .ptr d => uptoBulk d + 1
  | .slice elems spare => uptoBulkAll elems + uptoBulkAll spare + 1
  | .agg parts => uptoBulkAll parts + 1
  | .iface _ d => uptoBulk d + 1
  | .map entries => uptoBulkEntries entries + 1
  | .held _ => 1
def uptoBulkAll {H : Type} : List (DataW H) → Nat
  | [] => 0
  | d :: r => uptoBulk d + uptoBulkAll r
def uptoBulkEntries {H : Type} : List (Lit × DataW H) → Nat
  | [] => 0
  | x :: r => uptoBulkEntry x + uptoBulkEntries r
def uptoBulkEntry {H : Type} : Lit × DataW H → Nat
  | (.string bytes, d) => bytes.length + uptoBulk d + 1
  | (_, d) => uptoBulk d + 1
 end
def uptoSmall : (H : Type) → List (DataW H) → Bool := fun _ ds => decide (uptoBulkAll ds ≤ 1048576)
def OpenSpec.upto (s : _root_.Go.ChangeSpec) : _root_.Go.OpenSpec := { _root_.Go.OpenSpec.ofChange s with cond := some uptoSmall }

/-- 'volumegrouplaw34.RelocatePlays', WHERE WHAT IT READS IS OF BULK AT MOST 1048576: true; the input reads as it did. -/
def relocatePlaysUptoRow : OpenClaim := { program := "ytpcjdmbnlhjlaaa", sum := "eadb0c1b0d87c7ace6b16208e9a04aba63326ac2620e9cc63b1acaf3c30e9ff7", func := "volumegroup/volumegrouplaw34.RelocatePlays", spec := "relocatePlays", unfollowed := true, recurses := true, plainKeys := false, apart := false, narrowed := true }
def RelocatePlaysUptoSaid : Prop := relocatePlaysUptoRow.holds Try.pinned (OpenSpec.upto relocatePlaysSpec)

/-- 'volumegrouplaw34.RelocateEnds', WHERE WHAT IT READS IS OF BULK AT MOST 1048576: true; the input reads as it did. -/
def relocateEndsUptoRow : OpenClaim := { program := "ytpcjdmbnlhjlaaa", sum := "eadb0c1b0d87c7ace6b16208e9a04aba63326ac2620e9cc63b1acaf3c30e9ff7", func := "volumegroup/volumegrouplaw34.RelocateEnds", spec := "relocateEnds", unfollowed := true, recurses := true, plainKeys := false, apart := false, narrowed := true }
def RelocateEndsUptoSaid : Prop := relocateEndsUptoRow.holds Try.pinned (OpenSpec.upto relocateEndsSpec)

/-- 'volumegrouplaw34.RelocateSound', WHERE WHAT IT READS IS OF BULK AT MOST 1048576: true; the input reads as it did. -/
def relocateSoundUptoRow : OpenClaim := { program := "ytpcjdmbnlhjlaaa", sum := "eadb0c1b0d87c7ace6b16208e9a04aba63326ac2620e9cc63b1acaf3c30e9ff7", func := "volumegroup/volumegrouplaw34.RelocateSound", spec := "relocateSound", unfollowed := true, recurses := true, plainKeys := false, apart := false, narrowed := true }
def RelocateSoundUptoSaid : Prop := relocateSoundUptoRow.holds Try.pinned (OpenSpec.upto relocateSoundSpec)

/-- 'volumegrouplaw34.RelocateFails', WHERE WHAT IT READS IS OF BULK AT MOST 1048576: true; the input reads as it did. -/
def relocateFailsUptoRow : OpenClaim := { program := "ytpcjdmbnlhjlaaa", sum := "eadb0c1b0d87c7ace6b16208e9a04aba63326ac2620e9cc63b1acaf3c30e9ff7", func := "volumegroup/volumegrouplaw34.RelocateFails", spec := "relocateFails", unfollowed := true, recurses := true, plainKeys := false, apart := false, narrowed := true }
def RelocateFailsUptoSaid : Prop := relocateFailsUptoRow.holds Try.pinned (OpenSpec.upto relocateFailsSpec)

end Rows
end Go.Proofs.Ytpcjdmbnlhjlaaa
