/-
  No cell of these rows narrows 'for every input' (looked for: loops, veiled, ifaces, maps, wideKeys, modest, calm, conditions, laid).
  DERIVED. THE GIVEN ROWS OF THIS SEAT. 7 by the template 'for every input the law returns true; each argument reads behind the call as it read before'; 0 by the template 'total and deterministic' (their statements: YtogchafnnkajfaaGreatTotals.lean).
  GIVEN WITH THE SEED: the statements are not yours to turn. If you find one false, say at which input.
  Laid BY PROGRAM, IN A SANDBOX (cutbox-rows.mjs): the forced cells as the released guide's own fill.sh prints them over the translation 8c3317b214fd4512… (all of the seat's roots in one cut). By AI agents, Wed Nov 11 2026. No macro, syntax, notation, axiom, sorry.
-/
import Derived.Test.YtogchafnnkajfaaGreatChecked
import GoSem.Claim
import GoSem.ClaimJoined
import GoSem.ClaimMapViews
import Derived.JoinedTies
import Derived.KernelRfl
namespace Go.Proofs.YtogchafnnkajfaaGreat
/- THE CELL 'sum', in the pinned program and in every row, IS THE sha256 OF THE DUMP (.gsa) THAT YtogchafnnkajfaaGreatProg.lean LOADS. Nothing in Lean hashes anything: it is a label: what it is worth is what the hold of that sum in a sandbox is worth. -/
noncomputable def Tryz.pinned : Pinned := { name := "ytogchafnnkajfaagreat", sum := "8c3317b214fd45120bfb20715ecbe3074a69555dd3e4ed33afd150a89014f7db", checked := Tryz.checked }
namespace Rows
def none {H : Type} : Left H := { results := [], args := [] }

/-- 'volumegrouplaw33.CachevolOpens': WHATEVER THE INPUT: true; the input reads as it did. -/
def cachevolOpensSpec : ChangeSpec := { name := "cachevolOpens", fn := fun _ => fun
  | [d] => { results := [.lit (.bool true)], args := [d] }
  | _ => none }
def cachevolOpensRow : OpenClaim := { program := "ytogchafnnkajfaagreat", sum := "8c3317b214fd45120bfb20715ecbe3074a69555dd3e4ed33afd150a89014f7db", func := "volumegroup/volumegrouplaw33.CachevolOpens", spec := "cachevolOpens", unfollowed := true, recurses := true, plainKeys := false, apart := false }
def CachevolOpensSaid : Prop := cachevolOpensRow.holds Tryz.pinned (OpenSpec.ofChange cachevolOpensSpec)

/-- ITS FALSE NEIGHBOUR: 'it returns false'. Refute it at one input. -/
def cachevolOpensWrong : ChangeSpec := { name := "cachevolOpens", fn := fun _ => fun
  | [d] => { results := [.lit (.bool false)], args := [d] }
  | _ => none }
def CachevolOpensWrongFalsely : Prop := cachevolOpensRow.holds Tryz.pinned (OpenSpec.ofChange cachevolOpensWrong)

/-- 'volumegrouplaw33.CachevolDetached': WHATEVER THE INPUT: true; the input reads as it did. -/
def cachevolDetachedSpec : ChangeSpec := { name := "cachevolDetached", fn := fun _ => fun
  | [d] => { results := [.lit (.bool true)], args := [d] }
  | _ => none }
def cachevolDetachedRow : OpenClaim := { program := "ytogchafnnkajfaagreat", sum := "8c3317b214fd45120bfb20715ecbe3074a69555dd3e4ed33afd150a89014f7db", func := "volumegroup/volumegrouplaw33.CachevolDetached", spec := "cachevolDetached", unfollowed := true, recurses := true, plainKeys := false, apart := false }
def CachevolDetachedSaid : Prop := cachevolDetachedRow.holds Tryz.pinned (OpenSpec.ofChange cachevolDetachedSpec)

/-- ITS FALSE NEIGHBOUR: 'it returns false'. Refute it at one input. -/
def cachevolDetachedWrong : ChangeSpec := { name := "cachevolDetached", fn := fun _ => fun
  | [d] => { results := [.lit (.bool false)], args := [d] }
  | _ => none }
def CachevolDetachedWrongFalsely : Prop := cachevolDetachedRow.holds Tryz.pinned (OpenSpec.ofChange cachevolDetachedWrong)

/-- 'volumegrouplaw33.CachevolPlays': WHATEVER THE INPUT: true; the input reads as it did. -/
def cachevolPlaysSpec : ChangeSpec := { name := "cachevolPlays", fn := fun _ => fun
  | [d] => { results := [.lit (.bool true)], args := [d] }
  | _ => none }
def cachevolPlaysRow : OpenClaim := { program := "ytogchafnnkajfaagreat", sum := "8c3317b214fd45120bfb20715ecbe3074a69555dd3e4ed33afd150a89014f7db", func := "volumegroup/volumegrouplaw33.CachevolPlays", spec := "cachevolPlays", unfollowed := true, recurses := true, plainKeys := false, apart := false }
def CachevolPlaysSaid : Prop := cachevolPlaysRow.holds Tryz.pinned (OpenSpec.ofChange cachevolPlaysSpec)

/-- ITS FALSE NEIGHBOUR: 'it returns false'. Refute it at one input. -/
def cachevolPlaysWrong : ChangeSpec := { name := "cachevolPlays", fn := fun _ => fun
  | [d] => { results := [.lit (.bool false)], args := [d] }
  | _ => none }
def CachevolPlaysWrongFalsely : Prop := cachevolPlaysRow.holds Tryz.pinned (OpenSpec.ofChange cachevolPlaysWrong)

/-- 'volumegrouplaw33.CachevolFails': WHATEVER THE INPUT: true; the input reads as it did. -/
def cachevolFailsSpec : ChangeSpec := { name := "cachevolFails", fn := fun _ => fun
  | [d1, d2] => { results := [.lit (.bool true)], args := [d1, d2] }
  | _ => none }
def cachevolFailsRow : OpenClaim := { program := "ytogchafnnkajfaagreat", sum := "8c3317b214fd45120bfb20715ecbe3074a69555dd3e4ed33afd150a89014f7db", func := "volumegroup/volumegrouplaw33.CachevolFails", spec := "cachevolFails", unfollowed := true, recurses := true, plainKeys := false, apart := false }
def CachevolFailsSaid : Prop := cachevolFailsRow.holds Tryz.pinned (OpenSpec.ofChange cachevolFailsSpec)

/-- ITS FALSE NEIGHBOUR: 'it returns false'. Refute it at one input. -/
def cachevolFailsWrong : ChangeSpec := { name := "cachevolFails", fn := fun _ => fun
  | [d1, d2] => { results := [.lit (.bool false)], args := [d1, d2] }
  | _ => none }
def CachevolFailsWrongFalsely : Prop := cachevolFailsRow.holds Tryz.pinned (OpenSpec.ofChange cachevolFailsWrong)

/-- 'volumegrouplaw33.CachevolBack': WHATEVER THE INPUT: true; the input reads as it did. -/
def cachevolBackSpec : ChangeSpec := { name := "cachevolBack", fn := fun _ => fun
  | [d1, d2] => { results := [.lit (.bool true)], args := [d1, d2] }
  | _ => none }
def cachevolBackRow : OpenClaim := { program := "ytogchafnnkajfaagreat", sum := "8c3317b214fd45120bfb20715ecbe3074a69555dd3e4ed33afd150a89014f7db", func := "volumegroup/volumegrouplaw33.CachevolBack", spec := "cachevolBack", unfollowed := true, recurses := true, plainKeys := false, apart := false }
def CachevolBackSaid : Prop := cachevolBackRow.holds Tryz.pinned (OpenSpec.ofChange cachevolBackSpec)

/-- ITS FALSE NEIGHBOUR: 'it returns false'. Refute it at one input. -/
def cachevolBackWrong : ChangeSpec := { name := "cachevolBack", fn := fun _ => fun
  | [d1, d2] => { results := [.lit (.bool false)], args := [d1, d2] }
  | _ => none }
def CachevolBackWrongFalsely : Prop := cachevolBackRow.holds Tryz.pinned (OpenSpec.ofChange cachevolBackWrong)

/-- 'volumegrouplaw33.CachevolThrough': WHATEVER THE INPUT: true; the input reads as it did. -/
def cachevolThroughSpec : ChangeSpec := { name := "cachevolThrough", fn := fun _ => fun
  | [d1, d2, d3] => { results := [.lit (.bool true)], args := [d1, d2, d3] }
  | _ => none }
def cachevolThroughRow : OpenClaim := { program := "ytogchafnnkajfaagreat", sum := "8c3317b214fd45120bfb20715ecbe3074a69555dd3e4ed33afd150a89014f7db", func := "volumegroup/volumegrouplaw33.CachevolThrough", spec := "cachevolThrough", unfollowed := true, recurses := true, plainKeys := false, apart := false }
def CachevolThroughSaid : Prop := cachevolThroughRow.holds Tryz.pinned (OpenSpec.ofChange cachevolThroughSpec)

/-- ITS FALSE NEIGHBOUR: 'it returns false'. Refute it at one input. -/
def cachevolThroughWrong : ChangeSpec := { name := "cachevolThrough", fn := fun _ => fun
  | [d1, d2, d3] => { results := [.lit (.bool false)], args := [d1, d2, d3] }
  | _ => none }
def CachevolThroughWrongFalsely : Prop := cachevolThroughRow.holds Tryz.pinned (OpenSpec.ofChange cachevolThroughWrong)

/-- 'volumegrouplaw33.CachevolAlone': WHATEVER THE INPUT: true; the input reads as it did. -/
def cachevolAloneSpec : ChangeSpec := { name := "cachevolAlone", fn := fun _ => fun
  | [d1, d2] => { results := [.lit (.bool true)], args := [d1, d2] }
  | _ => none }
def cachevolAloneRow : OpenClaim := { program := "ytogchafnnkajfaagreat", sum := "8c3317b214fd45120bfb20715ecbe3074a69555dd3e4ed33afd150a89014f7db", func := "volumegroup/volumegrouplaw33.CachevolAlone", spec := "cachevolAlone", unfollowed := true, recurses := true, plainKeys := false, apart := false }
def CachevolAloneSaid : Prop := cachevolAloneRow.holds Tryz.pinned (OpenSpec.ofChange cachevolAloneSpec)

/-- ITS FALSE NEIGHBOUR: 'it returns false'. Refute it at one input. -/
def cachevolAloneWrong : ChangeSpec := { name := "cachevolAlone", fn := fun _ => fun
  | [d1, d2] => { results := [.lit (.bool false)], args := [d1, d2] }
  | _ => none }
def CachevolAloneWrongFalsely : Prop := cachevolAloneRow.holds Tryz.pinned (OpenSpec.ofChange cachevolAloneWrong)

/- THE SECOND FORM. 'bulk': how many values and letters a reading holds, each counted each time it is reached (what is shared counts as often as it is met; a slice's spare places count too). A statement '..UptoSaid' is the law's where the arguments, and the package variables that the reading takes, are together of bulk at most 1048576: NARROWER than '..Said'. Prove '..Said' where nothing that the law and all that it calls make is longer than what came in: it says more and counts as full. Else prove '..UptoSaid'. A law counts once. -/
mutual
def uptoBulk {H : Type} : DataW H → Nat
  | .lit (.string bytes) => bytes.length + 1
  | .lit _ => 1
  | .nil => 1
  | .ptr d => uptoBulk d + 1
  | .slice elems spare => uptoBulkAll elems + uptoBulkAll spare + 1
  | .agg parts => uptoBulkAll parts + 1
  | .iface _ d => uptoBulk d + 1
  | .map entries => uptoBulkEntries entries + 1
  | .held _ => 1
def uptoBulkAll {H : Type} : List (DataW H) → Nat
  | [] => 0
  | d :: r => uptoBulk d + uptoBulkAll r
def uptoBulkEntries {H : Type} : List (Lit × DataW H) → Nat
  | [] => 0
  | x :: r => uptoBulkEntry x + uptoBulkEntries r
def uptoBulkEntry {H : Type} : Lit × DataW H → Nat
  | (.string bytes, d) => bytes.length + uptoBulk d + 1
  | (_, d) => uptoBulk d + 1
 end
def uptoSmall : (H : Type) → List (DataW H) → Bool := fun _ ds => decide (uptoBulkAll ds ≤ 1048576)
def OpenSpec.upto (s : _root_.Go.ChangeSpec) : _root_.Go.OpenSpec := { _root_.Go.OpenSpec.ofChange s with cond := some uptoSmall }

/-- 'volumegrouplaw33.CachevolOpens', WHERE WHAT IT READS IS OF BULK AT MOST 1048576: true; the input reads as it did. -/
def cachevolOpensUptoRow : OpenClaim := { program := "ytogchafnnkajfaagreat", sum := "8c3317b214fd45120bfb20715ecbe3074a69555dd3e4ed33afd150a89014f7db", func := "volumegroup/volumegrouplaw33.CachevolOpens", spec := "cachevolOpens", unfollowed := true, recurses := true, plainKeys := false, apart := false, narrowed := true }
def CachevolOpensUptoSaid : Prop := cachevolOpensUptoRow.holds Tryz.pinned (OpenSpec.upto cachevolOpensSpec)

/-- 'volumegrouplaw33.CachevolDetached', WHERE WHAT IT READS IS OF BULK AT MOST 1048576: true; the input reads as it did. -/
def cachevolDetachedUptoRow : OpenClaim := { program := "ytogchafnnkajfaagreat", sum := "8c3317b214fd45120bfb20715ecbe3074a69555dd3e4ed33afd150a89014f7db", func := "volumegroup/volumegrouplaw33.CachevolDetached", spec := "cachevolDetached", unfollowed := true, recurses := true, plainKeys := false, apart := false, narrowed := true }
def CachevolDetachedUptoSaid : Prop := cachevolDetachedUptoRow.holds Tryz.pinned (OpenSpec.upto cachevolDetachedSpec)

/-- 'volumegrouplaw33.CachevolPlays', WHERE WHAT IT READS IS OF BULK AT MOST 1048576: true; the input reads as it did. -/
def cachevolPlaysUptoRow : OpenClaim := { program := "ytogchafnnkajfaagreat", sum := "8c3317b214fd45120bfb20715ecbe3074a69555dd3e4ed33afd150a89014f7db", func := "volumegroup/volumegrouplaw33.CachevolPlays", spec := "cachevolPlays", unfollowed := true, recurses := true, plainKeys := false, apart := false, narrowed := true }
def CachevolPlaysUptoSaid : Prop := cachevolPlaysUptoRow.holds Tryz.pinned (OpenSpec.upto cachevolPlaysSpec)

/-- 'volumegrouplaw33.CachevolFails', WHERE WHAT IT READS IS OF BULK AT MOST 1048576: true; the input reads as it did. -/
def cachevolFailsUptoRow : OpenClaim := { program := "ytogchafnnkajfaagreat", sum := "8c3317b214fd45120bfb20715ecbe3074a69555dd3e4ed33afd150a89014f7db", func := "volumegroup/volumegrouplaw33.CachevolFails", spec := "cachevolFails", unfollowed := true, recurses := true, plainKeys := false, apart := false, narrowed := true }
def CachevolFailsUptoSaid : Prop := cachevolFailsUptoRow.holds Tryz.pinned (OpenSpec.upto cachevolFailsSpec)

/-- 'volumegrouplaw33.CachevolBack', WHERE WHAT IT READS IS OF BULK AT MOST 1048576: true; the input reads as it did. -/
def cachevolBackUptoRow : OpenClaim := { program := "ytogchafnnkajfaagreat", sum := "8c3317b214fd45120bfb20715ecbe3074a69555dd3e4ed33afd150a89014f7db", func := "volumegroup/volumegrouplaw33.CachevolBack", spec := "cachevolBack", unfollowed := true, recurses := true, plainKeys := false, apart := false, narrowed := true }
def CachevolBackUptoSaid : Prop := cachevolBackUptoRow.holds Tryz.pinned (OpenSpec.upto cachevolBackSpec)

/-- 'volumegrouplaw33.CachevolThrough', WHERE WHAT IT READS IS OF BULK AT MOST 1048576: true; the input reads as it did. -/
def cachevolThroughUptoRow : OpenClaim := { program := "ytogchafnnkajfaagreat", sum := "8c3317b214fd45120bfb20715ecbe3074a69555dd3e4ed33afd150a89014f7db", func := "volumegroup/volumegrouplaw33.CachevolThrough", spec := "cachevolThrough", unfollowed := true, recurses := true, plainKeys := false, apart := false, narrowed := true }
def CachevolThroughUptoSaid : Prop := cachevolThroughUptoRow.holds Tryz.pinned (OpenSpec.upto cachevolThroughSpec)

/-- 'volumegrouplaw33.CachevolAlone', WHERE WHAT IT READS IS OF BULK AT MOST 1048576: true; the input reads as it did. -/
def cachevolAloneUptoRow : OpenClaim := { program := "ytogchafnnkajfaagreat", sum := "8c3317b214fd45120bfb20715ecbe3074a69555dd3e4ed33afd150a89014f7db", func := "volumegroup/volumegrouplaw33.CachevolAlone", spec := "cachevolAlone", unfollowed := true, recurses := true, plainKeys := false, apart := false, narrowed := true }
def CachevolAloneUptoSaid : Prop := cachevolAloneUptoRow.holds Tryz.pinned (OpenSpec.upto cachevolAloneSpec)

end Rows
end Go.Proofs.YtogchafnnkajfaaGreat
