/-
  No cell of these rows narrows 'for every input' (looked for: loops, veiled, ifaces, maps, wideKeys, modest, calm, conditions, laid).
  DERIVED. THE GIVEN ROWS OF THIS SEAT. 7 by the template 'for every input the law returns true; each argument reads behind the call as it read before'; 0 by the template 'total and deterministic' (their statements: YtojbfjfjhfnopaaTotals.lean).
  GIVEN WITH THE SEED: the statements are not yours to turn. If you find one false, say at which input.
  Laid BY PROGRAM, IN A SANDBOX (cutbox-rows.mjs): the forced cells as the released guide's own fill.sh prints them over the translation 451576590fc377cd… (all of the seat's roots in one cut). By AI agents, Wed Nov 11 2026. No macro, syntax, notation, axiom, sorry.
-/
import Derived.Test.YtojbfjfjhfnopaaChecked
import GoSem.Claim
import GoSem.ClaimJoined
import GoSem.ClaimMapViews
import Derived.JoinedTies
import Derived.KernelRfl
namespace Go.Proofs.Ytojbfjfjhfnopaa
/- THE CELL 'sum', in the pinned program and in every row, IS THE sha256 OF THE DUMP (.gsa) THAT YtojbfjfjhfnopaaProg.lean LOADS. Nothing in Lean hashes anything: it is a label: what it is worth is what the hold of that sum in a sandbox is worth. -/
noncomputable def Try.pinned : Pinned := { name := "ytojbfjfjhfnopaa", sum := "451576590fc377cdbbe375b9fad8962728b75dc0fb73c4a213378029d5f6ce51", checked := Try.checked }
namespace Rows
def none {H : Type} : Left H := { results := [], args := [] }

/-- 'inclinelaw13.MergeEntries': WHATEVER THE INPUT: true; the input reads as it did. -/
def mergeEntriesSpec : ChangeSpec := { name := "mergeEntries", fn := fun _ => fun
  | [d] => { results := [.lit (.bool true)], args := [d] }
  | _ => none }
def mergeEntriesRow : OpenClaim := { program := "ytojbfjfjhfnopaa", sum := "451576590fc377cdbbe375b9fad8962728b75dc0fb73c4a213378029d5f6ce51", func := "incline/inclinelaw13.MergeEntries", spec := "mergeEntries", unfollowed := true, recurses := true, apart := false }
def MergeEntriesSaid : Prop := mergeEntriesRow.holds Try.pinned (OpenSpec.ofChange mergeEntriesSpec)

/-- ITS FALSE NEIGHBOUR: 'it returns false'. Refute it at one input. -/
def mergeEntriesWrong : ChangeSpec := { name := "mergeEntries", fn := fun _ => fun
  | [d] => { results := [.lit (.bool false)], args := [d] }
  | _ => none }
def MergeEntriesWrongFalsely : Prop := mergeEntriesRow.holds Try.pinned (OpenSpec.ofChange mergeEntriesWrong)

/-- 'inclinelaw13.MergeGoes': WHATEVER THE INPUT: true; the input reads as it did. -/
def mergeGoesSpec : ChangeSpec := { name := "mergeGoes", fn := fun _ => fun
  | [d1, d2] => { results := [.lit (.bool true)], args := [d1, d2] }
  | _ => none }
def mergeGoesRow : OpenClaim := { program := "ytojbfjfjhfnopaa", sum := "451576590fc377cdbbe375b9fad8962728b75dc0fb73c4a213378029d5f6ce51", func := "incline/inclinelaw13.MergeGoes", spec := "mergeGoes", unfollowed := true, recurses := true, apart := false }
def MergeGoesSaid : Prop := mergeGoesRow.holds Try.pinned (OpenSpec.ofChange mergeGoesSpec)

/-- ITS FALSE NEIGHBOUR: 'it returns false'. Refute it at one input. -/
def mergeGoesWrong : ChangeSpec := { name := "mergeGoes", fn := fun _ => fun
  | [d1, d2] => { results := [.lit (.bool false)], args := [d1, d2] }
  | _ => none }
def MergeGoesWrongFalsely : Prop := mergeGoesRow.holds Try.pinned (OpenSpec.ofChange mergeGoesWrong)

/-- 'inclinelaw13.MergeWords': WHATEVER THE INPUT: true; the input reads as it did. -/
def mergeWordsSpec : ChangeSpec := { name := "mergeWords", fn := fun _ => fun
  | [d] => { results := [.lit (.bool true)], args := [d] }
  | _ => none }
def mergeWordsRow : OpenClaim := { program := "ytojbfjfjhfnopaa", sum := "451576590fc377cdbbe375b9fad8962728b75dc0fb73c4a213378029d5f6ce51", func := "incline/inclinelaw13.MergeWords", spec := "mergeWords", unfollowed := true, recurses := true, apart := false }
def MergeWordsSaid : Prop := mergeWordsRow.holds Try.pinned (OpenSpec.ofChange mergeWordsSpec)

/-- ITS FALSE NEIGHBOUR: 'it returns false'. Refute it at one input. -/
def mergeWordsWrong : ChangeSpec := { name := "mergeWords", fn := fun _ => fun
  | [d] => { results := [.lit (.bool false)], args := [d] }
  | _ => none }
def MergeWordsWrongFalsely : Prop := mergeWordsRow.holds Try.pinned (OpenSpec.ofChange mergeWordsWrong)

/-- 'inclinelaw13.MergeSifts': WHATEVER THE INPUT: true; the input reads as it did. -/
def mergeSiftsSpec : ChangeSpec := { name := "mergeSifts", fn := fun _ => fun
  | [d1, d2] => { results := [.lit (.bool true)], args := [d1, d2] }
  | _ => none }
def mergeSiftsRow : OpenClaim := { program := "ytojbfjfjhfnopaa", sum := "451576590fc377cdbbe375b9fad8962728b75dc0fb73c4a213378029d5f6ce51", func := "incline/inclinelaw13.MergeSifts", spec := "mergeSifts", unfollowed := true, recurses := true, apart := false }
def MergeSiftsSaid : Prop := mergeSiftsRow.holds Try.pinned (OpenSpec.ofChange mergeSiftsSpec)

/-- ITS FALSE NEIGHBOUR: 'it returns false'. Refute it at one input. -/
def mergeSiftsWrong : ChangeSpec := { name := "mergeSifts", fn := fun _ => fun
  | [d1, d2] => { results := [.lit (.bool false)], args := [d1, d2] }
  | _ => none }
def MergeSiftsWrongFalsely : Prop := mergeSiftsRow.holds Try.pinned (OpenSpec.ofChange mergeSiftsWrong)

/-- 'inclinelaw13.MergeOnce': WHATEVER THE INPUT: true; the input reads as it did. -/
def mergeOnceSpec : ChangeSpec := { name := "mergeOnce", fn := fun _ => fun
  | [d] => { results := [.lit (.bool true)], args := [d] }
  | _ => none }
def mergeOnceRow : OpenClaim := { program := "ytojbfjfjhfnopaa", sum := "451576590fc377cdbbe375b9fad8962728b75dc0fb73c4a213378029d5f6ce51", func := "incline/inclinelaw13.MergeOnce", spec := "mergeOnce", unfollowed := true, recurses := true, apart := false }
def MergeOnceSaid : Prop := mergeOnceRow.holds Try.pinned (OpenSpec.ofChange mergeOnceSpec)

/-- ITS FALSE NEIGHBOUR: 'it returns false'. Refute it at one input. -/
def mergeOnceWrong : ChangeSpec := { name := "mergeOnce", fn := fun _ => fun
  | [d] => { results := [.lit (.bool false)], args := [d] }
  | _ => none }
def MergeOnceWrongFalsely : Prop := mergeOnceRow.holds Try.pinned (OpenSpec.ofChange mergeOnceWrong)

/-- 'inclinelaw13.MergeGroups': WHATEVER THE INPUT: true; the input reads as it did. -/
def mergeGroupsSpec : ChangeSpec := { name := "mergeGroups", fn := fun _ => fun
  | [d1, d2, d3] => { results := [.lit (.bool true)], args := [d1, d2, d3] }
  | _ => none }
def mergeGroupsRow : OpenClaim := { program := "ytojbfjfjhfnopaa", sum := "451576590fc377cdbbe375b9fad8962728b75dc0fb73c4a213378029d5f6ce51", func := "incline/inclinelaw13.MergeGroups", spec := "mergeGroups", unfollowed := true, recurses := true, apart := false }
def MergeGroupsSaid : Prop := mergeGroupsRow.holds Try.pinned (OpenSpec.ofChange mergeGroupsSpec)

/-- ITS FALSE NEIGHBOUR: 'it returns false'. Refute it at one input. -/
def mergeGroupsWrong : ChangeSpec := { name := "mergeGroups", fn := fun _ => fun
  | [d1, d2, d3] => { results := [.lit (.bool false)], args := [d1, d2, d3] }
  | _ => none }
def MergeGroupsWrongFalsely : Prop := mergeGroupsRow.holds Try.pinned (OpenSpec.ofChange mergeGroupsWrong)

/-- 'inclinelaw13.MergeSifted': WHATEVER THE INPUT: true; the input reads as it did. -/
def mergeSiftedSpec : ChangeSpec := { name := "mergeSifted", fn := fun _ => fun
  | [d1, d2, d3] => { results := [.lit (.bool true)], args := [d1, d2, d3] }
  | _ => none }
def mergeSiftedRow : OpenClaim := { program := "ytojbfjfjhfnopaa", sum := "451576590fc377cdbbe375b9fad8962728b75dc0fb73c4a213378029d5f6ce51", func := "incline/inclinelaw13.MergeSifted", spec := "mergeSifted", unfollowed := true, recurses := true, apart := false }
def MergeSiftedSaid : Prop := mergeSiftedRow.holds Try.pinned (OpenSpec.ofChange mergeSiftedSpec)

/-- ITS FALSE NEIGHBOUR: 'it returns false'. Refute it at one input. -/
def mergeSiftedWrong : ChangeSpec := { name := "mergeSifted", fn := fun _ => fun
  | [d1, d2, d3] => { results := [.lit (.bool false)], args := [d1, d2, d3] }
  | _ => none }
def MergeSiftedWrongFalsely : Prop := mergeSiftedRow.holds Try.pinned (OpenSpec.ofChange mergeSiftedWrong)

/- THE SECOND FORM. 'bulk': how many values and letters a reading holds, each counted each time it is reached (what is shared counts as often as it is met; a slice's spare places count too). A statement '..UptoSaid' is the law's where the arguments, and the package variables that the reading takes, are together of bulk at most 1048576: NARROWER than '..Said'. Prove '..Said' where nothing that the law and all that it calls make is longer than what came in: it says more and counts as full. Else prove '..UptoSaid'. A law counts once. -/
mutual
def uptoBulk {H : Type} : DataW H → Nat
  | .lit (.string bytes) => bytes.length + 1
  | .lit _ => 1
  | .nil => 1
  | .ptr d => uptoBulk d + 1
  | .slice elems spare => uptoBulkAll elems + uptoBulkAll spare + 1
  | .agg parts => uptoBulkAll parts + 1
  | .iface _ d => uptoBulk d + 1
  | .map entries => uptoBulkEntries entries + 1
  | .held _ => 1
def uptoBulkAll {H : Type} : List (DataW H) → Nat
  | [] => 0
  | d :: r => uptoBulk d + uptoBulkAll r
def uptoBulkEntries {H : Type} : List (Lit × DataW H) → Nat
  | [] => 0
  | x :: r => uptoBulkEntry x + uptoBulkEntries r
def uptoBulkEntry {H : Type} : Lit × DataW H → Nat
  | (.string bytes, d) => bytes.length + uptoBulk d + 1
  | (_, d) => uptoBulk d + 1
 end
def uptoSmall : (H : Type) → List (DataW H) → Bool := fun _ ds => decide (uptoBulkAll ds ≤ 1048576)
def OpenSpec.upto (s : _root_.Go.ChangeSpec) : _root_.Go.OpenSpec := { _root_.Go.OpenSpec.ofChange s with cond := some uptoSmall }

/-- 'inclinelaw13.MergeEntries', WHERE WHAT IT READS IS OF BULK AT MOST 1048576: true; the input reads as it did. -/
def mergeEntriesUptoRow : OpenClaim := { program := "ytojbfjfjhfnopaa", sum := "451576590fc377cdbbe375b9fad8962728b75dc0fb73c4a213378029d5f6ce51", func := "incline/inclinelaw13.MergeEntries", spec := "mergeEntries", unfollowed := true, recurses := true, apart := false, narrowed := true }
def MergeEntriesUptoSaid : Prop := mergeEntriesUptoRow.holds Try.pinned (OpenSpec.upto mergeEntriesSpec)

/-- 'inclinelaw13.MergeGoes', WHERE WHAT IT READS IS OF BULK AT MOST 1048576: true; the input reads as it did. -/
def mergeGoesUptoRow : OpenClaim := { program := "ytojbfjfjhfnopaa", sum := "451576590fc377cdbbe375b9fad8962728b75dc0fb73c4a213378029d5f6ce51", func := "incline/inclinelaw13.MergeGoes", spec := "mergeGoes", unfollowed := true, recurses := true, apart := false, narrowed := true }
def MergeGoesUptoSaid : Prop := mergeGoesUptoRow.holds Try.pinned (OpenSpec.upto mergeGoesSpec)

/-- 'inclinelaw13.MergeWords', WHERE WHAT IT READS IS OF BULK AT MOST 1048576: true; the input reads as it did. -/
def mergeWordsUptoRow : OpenClaim := { program := "ytojbfjfjhfnopaa", sum := "451576590fc377cdbbe375b9fad8962728b75dc0fb73c4a213378029d5f6ce51", func := "incline/inclinelaw13.MergeWords", spec := "mergeWords", unfollowed := true, recurses := true, apart := false, narrowed := true }
def MergeWordsUptoSaid : Prop := mergeWordsUptoRow.holds Try.pinned (OpenSpec.upto mergeWordsSpec)

/-- 'inclinelaw13.MergeSifts', WHERE WHAT IT READS IS OF BULK AT MOST 1048576: true; the input reads as it did. -/
def mergeSiftsUptoRow : OpenClaim := { program := "ytojbfjfjhfnopaa", sum := "451576590fc377cdbbe375b9fad8962728b75dc0fb73c4a213378029d5f6ce51", func := "incline/inclinelaw13.MergeSifts", spec := "mergeSifts", unfollowed := true, recurses := true, apart := false, narrowed := true }
def MergeSiftsUptoSaid : Prop := mergeSiftsUptoRow.holds Try.pinned (OpenSpec.upto mergeSiftsSpec)

/-- 'inclinelaw13.MergeOnce', WHERE WHAT IT READS IS OF BULK AT MOST 1048576: true; the input reads as it did. -/
def mergeOnceUptoRow : OpenClaim := { program := "ytojbfjfjhfnopaa", sum := "451576590fc377cdbbe375b9fad8962728b75dc0fb73c4a213378029d5f6ce51", func := "incline/inclinelaw13.MergeOnce", spec := "mergeOnce", unfollowed := true, recurses := true, apart := false, narrowed := true }
def MergeOnceUptoSaid : Prop := mergeOnceUptoRow.holds Try.pinned (OpenSpec.upto mergeOnceSpec)

/-- 'inclinelaw13.MergeGroups', WHERE WHAT IT READS IS OF BULK AT MOST 1048576: true; the input reads as it did. -/
def mergeGroupsUptoRow : OpenClaim := { program := "ytojbfjfjhfnopaa", sum := "451576590fc377cdbbe375b9fad8962728b75dc0fb73c4a213378029d5f6ce51", func := "incline/inclinelaw13.MergeGroups", spec := "mergeGroups", unfollowed := true, recurses := true, apart := false, narrowed := true }
def MergeGroupsUptoSaid : Prop := mergeGroupsUptoRow.holds Try.pinned (OpenSpec.upto mergeGroupsSpec)

/-- 'inclinelaw13.MergeSifted', WHERE WHAT IT READS IS OF BULK AT MOST 1048576: true; the input reads as it did. -/
def mergeSiftedUptoRow : OpenClaim := { program := "ytojbfjfjhfnopaa", sum := "451576590fc377cdbbe375b9fad8962728b75dc0fb73c4a213378029d5f6ce51", func := "incline/inclinelaw13.MergeSifted", spec := "mergeSifted", unfollowed := true, recurses := true, apart := false, narrowed := true }
def MergeSiftedUptoSaid : Prop := mergeSiftedUptoRow.holds Try.pinned (OpenSpec.upto mergeSiftedSpec)

end Rows
end Go.Proofs.Ytojbfjfjhfnopaa
