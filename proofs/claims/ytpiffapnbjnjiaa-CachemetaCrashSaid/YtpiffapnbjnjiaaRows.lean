/-
  No cell of these rows narrows 'for every input' (looked for: loops, veiled, ifaces, maps, wideKeys, modest, calm, conditions, laid).
  DERIVED. THE GIVEN ROWS OF THIS SEAT. 4 by the template 'for every input the law returns true; each argument reads behind the call as it read before'; 0 by the template 'total and deterministic' (their statements: YtpiffapnbjnjiaaTotals.lean).
  GIVEN WITH THE SEED: the statements are not yours to turn. If you find one false, say at which input.
  Laid BY PROGRAM, IN A SANDBOX (cutbox-rows.mjs): the forced cells as the released guide's own fill.sh prints them over the translation 6b895bec789a31b5… (all of the seat's roots in one cut). By AI agents, Wed Nov 11 2026. No macro, syntax, notation, axiom, sorry.
-/
import Derived.Test.YtpiffapnbjnjiaaChecked
import GoSem.Claim
import GoSem.ClaimJoined
import GoSem.ClaimMapViews
import Derived.JoinedTies
import Derived.KernelRfl
namespace Go.Proofs.Ytpiffapnbjnjiaa
/- THE CELL 'sum', in the pinned program and in every row, IS THE sha256 OF THE DUMP (.gsa) THAT YtpiffapnbjnjiaaProg.lean LOADS. Nothing in Lean hashes anything: it is a label: what it is worth is what the hold of that sum in a sandbox is worth. -/
noncomputable def Try.pinned : Pinned := { name := "ytpiffapnbjnjiaa", sum := "6b895bec789a31b57d7acd93dacb43eabbdf0d662fe1f0f7d7099ab76e44bdaf", checked := Try.checked }
namespace Rows
def none {H : Type} : Left H := { results := [], args := [] }

/-- 'volumegrouplaw32.CachemetaOpens': WHATEVER THE INPUT: true; the input reads as it did. -/
def cachemetaOpensSpec : ChangeSpec := { name := "cachemetaOpens", fn := fun _ => fun
  | [d] => { results := [.lit (.bool true)], args := [d] }
  | _ => none }
def cachemetaOpensRow : OpenClaim := { program := "ytpiffapnbjnjiaa", sum := "6b895bec789a31b57d7acd93dacb43eabbdf0d662fe1f0f7d7099ab76e44bdaf", func := "volumegroup/volumegrouplaw32.CachemetaOpens", spec := "cachemetaOpens", unfollowed := true, recurses := true, plainKeys := false, apart := false }
def CachemetaOpensSaid : Prop := cachemetaOpensRow.holds Try.pinned (OpenSpec.ofChange cachemetaOpensSpec)

/-- ITS FALSE NEIGHBOUR: 'it returns false'. Refute it at one input. -/
def cachemetaOpensWrong : ChangeSpec := { name := "cachemetaOpens", fn := fun _ => fun
  | [d] => { results := [.lit (.bool false)], args := [d] }
  | _ => none }
def CachemetaOpensWrongFalsely : Prop := cachemetaOpensRow.holds Try.pinned (OpenSpec.ofChange cachemetaOpensWrong)

/-- 'volumegrouplaw32.CachemetaFormats': WHATEVER THE INPUT: true; the input reads as it did. -/
def cachemetaFormatsSpec : ChangeSpec := { name := "cachemetaFormats", fn := fun _ => fun
  | [d1, d2, d3, d4] => { results := [.lit (.bool true)], args := [d1, d2, d3, d4] }
  | _ => none }
def cachemetaFormatsRow : OpenClaim := { program := "ytpiffapnbjnjiaa", sum := "6b895bec789a31b57d7acd93dacb43eabbdf0d662fe1f0f7d7099ab76e44bdaf", func := "volumegroup/volumegrouplaw32.CachemetaFormats", spec := "cachemetaFormats", unfollowed := true, recurses := true, plainKeys := false, apart := false }
def CachemetaFormatsSaid : Prop := cachemetaFormatsRow.holds Try.pinned (OpenSpec.ofChange cachemetaFormatsSpec)

/-- ITS FALSE NEIGHBOUR: 'it returns false'. Refute it at one input. -/
def cachemetaFormatsWrong : ChangeSpec := { name := "cachemetaFormats", fn := fun _ => fun
  | [d1, d2, d3, d4] => { results := [.lit (.bool false)], args := [d1, d2, d3, d4] }
  | _ => none }
def CachemetaFormatsWrongFalsely : Prop := cachemetaFormatsRow.holds Try.pinned (OpenSpec.ofChange cachemetaFormatsWrong)

/-- 'volumegrouplaw32.CachemetaPuts': WHATEVER THE INPUT: true; the input reads as it did. -/
def cachemetaPutsSpec : ChangeSpec := { name := "cachemetaPuts", fn := fun _ => fun
  | [d] => { results := [.lit (.bool true)], args := [d] }
  | _ => none }
def cachemetaPutsRow : OpenClaim := { program := "ytpiffapnbjnjiaa", sum := "6b895bec789a31b57d7acd93dacb43eabbdf0d662fe1f0f7d7099ab76e44bdaf", func := "volumegroup/volumegrouplaw32.CachemetaPuts", spec := "cachemetaPuts", unfollowed := true, recurses := true, plainKeys := false, apart := false }
def CachemetaPutsSaid : Prop := cachemetaPutsRow.holds Try.pinned (OpenSpec.ofChange cachemetaPutsSpec)

/-- ITS FALSE NEIGHBOUR: 'it returns false'. Refute it at one input. -/
def cachemetaPutsWrong : ChangeSpec := { name := "cachemetaPuts", fn := fun _ => fun
  | [d] => { results := [.lit (.bool false)], args := [d] }
  | _ => none }
def CachemetaPutsWrongFalsely : Prop := cachemetaPutsRow.holds Try.pinned (OpenSpec.ofChange cachemetaPutsWrong)

/-- 'volumegrouplaw32.CachemetaCrash': WHATEVER THE INPUT: true; the input reads as it did. -/
def cachemetaCrashSpec : ChangeSpec := { name := "cachemetaCrash", fn := fun _ => fun
  | [d1, d2] => { results := [.lit (.bool true)], args := [d1, d2] }
  | _ => none }
def cachemetaCrashRow : OpenClaim := { program := "ytpiffapnbjnjiaa", sum := "6b895bec789a31b57d7acd93dacb43eabbdf0d662fe1f0f7d7099ab76e44bdaf", func := "volumegroup/volumegrouplaw32.CachemetaCrash", spec := "cachemetaCrash", unfollowed := true, recurses := true, plainKeys := false, apart := false }
def CachemetaCrashSaid : Prop := cachemetaCrashRow.holds Try.pinned (OpenSpec.ofChange cachemetaCrashSpec)

/-- ITS FALSE NEIGHBOUR: 'it returns false'. Refute it at one input. -/
def cachemetaCrashWrong : ChangeSpec := { name := "cachemetaCrash", fn := fun _ => fun
  | [d1, d2] => { results := [.lit (.bool false)], args := [d1, d2] }
  | _ => none }
def CachemetaCrashWrongFalsely : Prop := cachemetaCrashRow.holds Try.pinned (OpenSpec.ofChange cachemetaCrashWrong)

/- THE SECOND FORM. 'bulk': how many values and letters a reading holds, each counted each time it is reached (what is shared counts as often as it is met; a slice's spare places count too). A statement '..UptoSaid' is the law's where the arguments, and the package variables that the reading takes, are together of bulk at most 1048576: NARROWER than '..Said'. Prove '..Said' where nothing that the law and all that it calls make is longer than what came in: it says more and counts as full. Else prove '..UptoSaid'. A law counts once. -/
mutual
def uptoBulk {H : Type} : DataW H → Nat
  | .lit (.string bytes) => bytes.length + 1
  | .lit _ => 1
  | .nil => 1
  | .ptr d => uptoBulk d + 1
  | .slice elems spare => uptoBulkAll elems + uptoBulkAll spare + 1
  | .agg parts => uptoBulkAll parts + 1
  | .iface _ d => uptoBulk d + 1
  | .map entries => uptoBulkEntries entries + 1
  | .held _ => 1
def uptoBulkAll {H : Type} : List (DataW H) → Nat
  | [] => 0
  | d :: r => uptoBulk d + uptoBulkAll r
def uptoBulkEntries {H : Type} : List (Lit × DataW H) → Nat
  | [] => 0
  | x :: r => uptoBulkEntry x + uptoBulkEntries r
def uptoBulkEntry {H : Type} : Lit × DataW H → Nat
  | (.string bytes, d) => bytes.length + uptoBulk d + 1
  | (_, d) => uptoBulk d + 1
 end
def uptoSmall : (H : Type) → List (DataW H) → Bool := fun _ ds => decide (uptoBulkAll ds ≤ 1048576)
def OpenSpec.upto (s : _root_.Go.ChangeSpec) : _root_.Go.OpenSpec := { _root_.Go.OpenSpec.ofChange s with cond := some uptoSmall }

/-- 'volumegrouplaw32.CachemetaOpens', WHERE WHAT IT READS IS OF BULK AT MOST 1048576: true; the input reads as it did. -/
def cachemetaOpensUptoRow : OpenClaim := { program := "ytpiffapnbjnjiaa", sum := "6b895bec789a31b57d7acd93dacb43eabbdf0d662fe1f0f7d7099ab76e44bdaf", func := "volumegroup/volumegrouplaw32.CachemetaOpens", spec := "cachemetaOpens", unfollowed := true, recurses := true, plainKeys := false, apart := false, narrowed := true }
def CachemetaOpensUptoSaid : Prop := cachemetaOpensUptoRow.holds Try.pinned (OpenSpec.upto cachemetaOpensSpec)

/-- 'volumegrouplaw32.CachemetaFormats', WHERE WHAT IT READS IS OF BULK AT MOST 1048576: true; the input reads as it did. -/
def cachemetaFormatsUptoRow : OpenClaim := { program := "ytpiffapnbjnjiaa", sum := "6b895bec789a31b57d7acd93dacb43eabbdf0d662fe1f0f7d7099ab76e44bdaf", func := "volumegroup/volumegrouplaw32.CachemetaFormats", spec := "cachemetaFormats", unfollowed := true, recurses := true, plainKeys := false, apart := false, narrowed := true }
def CachemetaFormatsUptoSaid : Prop := cachemetaFormatsUptoRow.holds Try.pinned (OpenSpec.upto cachemetaFormatsSpec)

/-- 'volumegrouplaw32.CachemetaPuts', WHERE WHAT IT READS IS OF BULK AT MOST 1048576: true; the input reads as it did. -/
def cachemetaPutsUptoRow : OpenClaim := { program := "ytpiffapnbjnjiaa", sum := "6b895bec789a31b57d7acd93dacb43eabbdf0d662fe1f0f7d7099ab76e44bdaf", func := "volumegroup/volumegrouplaw32.CachemetaPuts", spec := "cachemetaPuts", unfollowed := true, recurses := true, plainKeys := false, apart := false, narrowed := true }
def CachemetaPutsUptoSaid : Prop := cachemetaPutsUptoRow.holds Try.pinned (OpenSpec.upto cachemetaPutsSpec)

/-- 'volumegrouplaw32.CachemetaCrash', WHERE WHAT IT READS IS OF BULK AT MOST 1048576: true; the input reads as it did. -/
def cachemetaCrashUptoRow : OpenClaim := { program := "ytpiffapnbjnjiaa", sum := "6b895bec789a31b57d7acd93dacb43eabbdf0d662fe1f0f7d7099ab76e44bdaf", func := "volumegroup/volumegrouplaw32.CachemetaCrash", spec := "cachemetaCrash", unfollowed := true, recurses := true, plainKeys := false, apart := false, narrowed := true }
def CachemetaCrashUptoSaid : Prop := cachemetaCrashUptoRow.holds Try.pinned (OpenSpec.upto cachemetaCrashSpec)

end Rows
end Go.Proofs.Ytpiffapnbjnjiaa
