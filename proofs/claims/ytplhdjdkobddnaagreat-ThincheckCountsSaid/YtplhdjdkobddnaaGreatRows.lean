/-
  No cell of these rows narrows 'for every input' (looked for: loops, veiled, ifaces, maps, wideKeys, modest, calm, conditions, laid).
  DERIVED. THE GIVEN ROWS OF THIS SEAT. 4 by the template 'for every input the law returns true; each argument reads behind the call as it read before'; 0 by the template 'total and deterministic' (their statements: YtplhdjdkobddnaaGreatTotals.lean).
  GIVEN WITH THE SEED: the statements are not yours to turn. If you find one false, say at which input.
  Laid BY PROGRAM, IN A SANDBOX (cutbox-rows.mjs): the forced cells as the released guide's own fill.sh prints them over the translation 05cfeadea75f0985… (all of the seat's roots in one cut). By AI agents, Wed Nov 11 2026. No macro, syntax, notation, axiom, sorry.
-/
import Derived.Test.YtplhdjdkobddnaaGreatChecked
import GoSem.Claim
import GoSem.ClaimJoined
import GoSem.ClaimMapViews
import Derived.JoinedTies
import Derived.KernelRfl
namespace Go.Proofs.YtplhdjdkobddnaaGreat
/- THE CELL 'sum', in the pinned program and in every row, IS THE sha256 OF THE DUMP (.gsa) THAT YtplhdjdkobddnaaGreatProg.lean LOADS. Nothing in Lean hashes anything: it is a label: what it is worth is what the hold of that sum in a sandbox is worth. -/
noncomputable def Tryz.pinned : Pinned := { name := "ytplhdjdkobddnaagreat", sum := "05cfeadea75f09857ab37dc53a58f80c05878d35a38c811e03bce4e3865cd53e", checked := Tryz.checked }
namespace Rows
def none {H : Type} : Left H := { results := [], args := [] }

/-- 'volumegrouplaw29.ThincheckRight': WHATEVER THE INPUT: true; the input reads as it did. -/
def thincheckRightSpec : ChangeSpec := { name := "thincheckRight", fn := fun _ => fun
  | [d] => { results := [.lit (.bool true)], args := [d] }
  | _ => none }
def thincheckRightRow : OpenClaim := { program := "ytplhdjdkobddnaagreat", sum := "05cfeadea75f09857ab37dc53a58f80c05878d35a38c811e03bce4e3865cd53e", func := "volumegroup/volumegrouplaw29.ThincheckRight", spec := "thincheckRight", unfollowed := true, recurses := true, apart := false }
def ThincheckRightSaid : Prop := thincheckRightRow.holds Tryz.pinned (OpenSpec.ofChange thincheckRightSpec)

/-- ITS FALSE NEIGHBOUR: 'it returns false'. Refute it at one input. -/
def thincheckRightWrong : ChangeSpec := { name := "thincheckRight", fn := fun _ => fun
  | [d] => { results := [.lit (.bool false)], args := [d] }
  | _ => none }
def ThincheckRightWrongFalsely : Prop := thincheckRightRow.holds Tryz.pinned (OpenSpec.ofChange thincheckRightWrong)

/-- 'volumegrouplaw29.ThincheckOpens': WHATEVER THE INPUT: true; the input reads as it did. -/
def thincheckOpensSpec : ChangeSpec := { name := "thincheckOpens", fn := fun _ => fun
  | [d] => { results := [.lit (.bool true)], args := [d] }
  | _ => none }
def thincheckOpensRow : OpenClaim := { program := "ytplhdjdkobddnaagreat", sum := "05cfeadea75f09857ab37dc53a58f80c05878d35a38c811e03bce4e3865cd53e", func := "volumegroup/volumegrouplaw29.ThincheckOpens", spec := "thincheckOpens", unfollowed := true, recurses := true, apart := false }
def ThincheckOpensSaid : Prop := thincheckOpensRow.holds Tryz.pinned (OpenSpec.ofChange thincheckOpensSpec)

/-- ITS FALSE NEIGHBOUR: 'it returns false'. Refute it at one input. -/
def thincheckOpensWrong : ChangeSpec := { name := "thincheckOpens", fn := fun _ => fun
  | [d] => { results := [.lit (.bool false)], args := [d] }
  | _ => none }
def ThincheckOpensWrongFalsely : Prop := thincheckOpensRow.holds Tryz.pinned (OpenSpec.ofChange thincheckOpensWrong)

/-- 'volumegrouplaw29.ThincheckFinds': WHATEVER THE INPUT: true; the input reads as it did. -/
def thincheckFindsSpec : ChangeSpec := { name := "thincheckFinds", fn := fun _ => fun
  | [d] => { results := [.lit (.bool true)], args := [d] }
  | _ => none }
def thincheckFindsRow : OpenClaim := { program := "ytplhdjdkobddnaagreat", sum := "05cfeadea75f09857ab37dc53a58f80c05878d35a38c811e03bce4e3865cd53e", func := "volumegroup/volumegrouplaw29.ThincheckFinds", spec := "thincheckFinds", unfollowed := true, recurses := true, apart := false }
def ThincheckFindsSaid : Prop := thincheckFindsRow.holds Tryz.pinned (OpenSpec.ofChange thincheckFindsSpec)

/-- ITS FALSE NEIGHBOUR: 'it returns false'. Refute it at one input. -/
def thincheckFindsWrong : ChangeSpec := { name := "thincheckFinds", fn := fun _ => fun
  | [d] => { results := [.lit (.bool false)], args := [d] }
  | _ => none }
def ThincheckFindsWrongFalsely : Prop := thincheckFindsRow.holds Tryz.pinned (OpenSpec.ofChange thincheckFindsWrong)

/-- 'volumegrouplaw29.ThincheckCounts': WHATEVER THE INPUT: true; the input reads as it did. -/
def thincheckCountsSpec : ChangeSpec := { name := "thincheckCounts", fn := fun _ => fun
  | [d] => { results := [.lit (.bool true)], args := [d] }
  | _ => none }
def thincheckCountsRow : OpenClaim := { program := "ytplhdjdkobddnaagreat", sum := "05cfeadea75f09857ab37dc53a58f80c05878d35a38c811e03bce4e3865cd53e", func := "volumegroup/volumegrouplaw29.ThincheckCounts", spec := "thincheckCounts", unfollowed := true, recurses := true, apart := false }
def ThincheckCountsSaid : Prop := thincheckCountsRow.holds Tryz.pinned (OpenSpec.ofChange thincheckCountsSpec)

/-- ITS FALSE NEIGHBOUR: 'it returns false'. Refute it at one input. -/
def thincheckCountsWrong : ChangeSpec := { name := "thincheckCounts", fn := fun _ => fun
  | [d] => { results := [.lit (.bool false)], args := [d] }
  | _ => none }
def ThincheckCountsWrongFalsely : Prop := thincheckCountsRow.holds Tryz.pinned (OpenSpec.ofChange thincheckCountsWrong)

/- THE SECOND FORM. 'bulk': how many values and letters a reading holds, each counted each time it is reached (what is shared counts as often as it is met; a slice's spare places count too). A statement '..UptoSaid' is the law's where the arguments, and the package variables that the reading takes, are together of bulk at most 1048576: NARROWER than '..Said'. Prove '..Said' where nothing that the law and all that it calls make is longer than what came in: it says more and counts as full. Else prove '..UptoSaid'. A law counts once. -/
mutual
def uptoBulk {H : Type} : DataW H → Nat
  | .lit (.string bytes) => bytes.length + 1
  | .lit _ => 1
  | .nil => 1
  | .ptr d => uptoBulk d + 1
  | .slice elems spare => uptoBulkAll elems + uptoBulkAll spare + 1
  | .agg parts => uptoBulkAll parts + 1
  | .iface _ d => uptoBulk d + 1
  | .map entries => uptoBulkEntries entries + 1
  | .held _ => 1
def uptoBulkAll {H : Type} : List (DataW H) → Nat
  | [] => 0
  | d :: r => uptoBulk d + uptoBulkAll r
def uptoBulkEntries {H : Type} : List (Lit × DataW H) → Nat
  | [] => 0
  | x :: r => uptoBulkEntry x + uptoBulkEntries r
def uptoBulkEntry {H : Type} : Lit × DataW H → Nat
  | (.string bytes, d) => bytes.length + uptoBulk d + 1
  | (_, d) => uptoBulk d + 1
 end
def uptoSmall : (H : Type) → List (DataW H) → Bool := fun _ ds => decide (uptoBulkAll ds ≤ 1048576)
def OpenSpec.upto (s : _root_.Go.ChangeSpec) : _root_.Go.OpenSpec := { _root_.Go.OpenSpec.ofChange s with cond := some uptoSmall }

/-- 'volumegrouplaw29.ThincheckRight', WHERE WHAT IT READS IS OF BULK AT MOST 1048576: true; the input reads as it did. -/
def thincheckRightUptoRow : OpenClaim := { program := "ytplhdjdkobddnaagreat", sum := "05cfeadea75f09857ab37dc53a58f80c05878d35a38c811e03bce4e3865cd53e", func := "volumegroup/volumegrouplaw29.ThincheckRight", spec := "thincheckRight", unfollowed := true, recurses := true, apart := false, narrowed := true }
def ThincheckRightUptoSaid : Prop := thincheckRightUptoRow.holds Tryz.pinned (OpenSpec.upto thincheckRightSpec)

/-- 'volumegrouplaw29.ThincheckOpens', WHERE WHAT IT READS IS OF BULK AT MOST 1048576: true; the input reads as it did. -/
def thincheckOpensUptoRow : OpenClaim := { program := "ytplhdjdkobddnaagreat", sum := "05cfeadea75f09857ab37dc53a58f80c05878d35a38c811e03bce4e3865cd53e", func := "volumegroup/volumegrouplaw29.ThincheckOpens", spec := "thincheckOpens", unfollowed := true, recurses := true, apart := false, narrowed := true }
def ThincheckOpensUptoSaid : Prop := thincheckOpensUptoRow.holds Tryz.pinned (OpenSpec.upto thincheckOpensSpec)

/-- 'volumegrouplaw29.ThincheckFinds', WHERE WHAT IT READS IS OF BULK AT MOST 1048576: true; the input reads as it did. -/
def thincheckFindsUptoRow : OpenClaim := { program := "ytplhdjdkobddnaagreat", sum := "05cfeadea75f09857ab37dc53a58f80c05878d35a38c811e03bce4e3865cd53e", func := "volumegroup/volumegrouplaw29.ThincheckFinds", spec := "thincheckFinds", unfollowed := true, recurses := true, apart := false, narrowed := true }
def ThincheckFindsUptoSaid : Prop := thincheckFindsUptoRow.holds Tryz.pinned (OpenSpec.upto thincheckFindsSpec)

/-- 'volumegrouplaw29.ThincheckCounts', WHERE WHAT IT READS IS OF BULK AT MOST 1048576: true; the input reads as it did. -/
def thincheckCountsUptoRow : OpenClaim := { program := "ytplhdjdkobddnaagreat", sum := "05cfeadea75f09857ab37dc53a58f80c05878d35a38c811e03bce4e3865cd53e", func := "volumegroup/volumegrouplaw29.ThincheckCounts", spec := "thincheckCounts", unfollowed := true, recurses := true, apart := false, narrowed := true }
def ThincheckCountsUptoSaid : Prop := thincheckCountsUptoRow.holds Tryz.pinned (OpenSpec.upto thincheckCountsSpec)

end Rows
end Go.Proofs.YtplhdjdkobddnaaGreat
