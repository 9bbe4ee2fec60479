/-
  No cell of these rows narrows 'for every input' (looked for: loops, veiled, ifaces, maps, wideKeys, modest, calm, conditions, laid).
  DERIVED. THE GIVEN ROWS OF THIS SEAT. 5 by the template 'for every input the law returns true; each argument reads behind the call as it read before'; 0 by the template 'total and deterministic' (their statements: YtmblnpgeaihebaaTotals.lean).
  GIVEN WITH THE SEED: the statements are not yours to turn. If you find one false, say at which input.
  Laid BY PROGRAM, IN A SANDBOX (cutbox-rows.mjs): the forced cells as the released guide's own fill.sh prints them over the translation 3e8c51b67a7a2ce5… (all of the seat's roots in one cut). By AI agents, Wed Nov 11 2026. No macro, syntax, notation, axiom, sorry.
-/
import Derived.Test.YtmblnpgeaihebaaChecked
import GoSem.Claim
import GoSem.ClaimJoined
import GoSem.ClaimMapViews
import Derived.JoinedTies
import Derived.KernelRfl
namespace Go.Proofs.Ytmblnpgeaihebaa
/- THE CELL 'sum', in the pinned program and in every row, IS THE sha256 OF THE DUMP (.gsa) THAT YtmblnpgeaihebaaProg.lean LOADS. Nothing in Lean hashes anything: it is a label: what it is worth is what the hold of that sum in a sandbox is worth. -/
noncomputable def Try.pinned : Pinned := { name := "ytmblnpgeaihebaa", sum := "3e8c51b67a7a2ce59126b7387cda89aa1373d7b81820e92ff9faf6d793443302", checked := Try.checked }
namespace Rows
def none {H : Type} : Left H := { results := [], args := [] }

/-- 'inclinelaw03.KeysChecks': WHATEVER THE INPUT: true; the input reads as it did. -/
def keysChecksSpec : ChangeSpec := { name := "keysChecks", fn := fun _ => fun
  | [d] => { results := [.lit (.bool true)], args := [d] }
  | _ => none }
def keysChecksRow : OpenClaim := { program := "ytmblnpgeaihebaa", sum := "3e8c51b67a7a2ce59126b7387cda89aa1373d7b81820e92ff9faf6d793443302", func := "incline/inclinelaw03.KeysChecks", spec := "keysChecks", unfollowed := true, recurses := true, apart := false }
def KeysChecksSaid : Prop := keysChecksRow.holds Try.pinned (OpenSpec.ofChange keysChecksSpec)

/-- ITS FALSE NEIGHBOUR: 'it returns false'. Refute it at one input. -/
def keysChecksWrong : ChangeSpec := { name := "keysChecks", fn := fun _ => fun
  | [d] => { results := [.lit (.bool false)], args := [d] }
  | _ => none }
def KeysChecksWrongFalsely : Prop := keysChecksRow.holds Try.pinned (OpenSpec.ofChange keysChecksWrong)

/-- 'inclinelaw03.KeysTells': WHATEVER THE INPUT: true; the input reads as it did. -/
def keysTellsSpec : ChangeSpec := { name := "keysTells", fn := fun _ => fun
  | [d] => { results := [.lit (.bool true)], args := [d] }
  | _ => none }
def keysTellsRow : OpenClaim := { program := "ytmblnpgeaihebaa", sum := "3e8c51b67a7a2ce59126b7387cda89aa1373d7b81820e92ff9faf6d793443302", func := "incline/inclinelaw03.KeysTells", spec := "keysTells", unfollowed := true, recurses := true, apart := false }
def KeysTellsSaid : Prop := keysTellsRow.holds Try.pinned (OpenSpec.ofChange keysTellsSpec)

/-- ITS FALSE NEIGHBOUR: 'it returns false'. Refute it at one input. -/
def keysTellsWrong : ChangeSpec := { name := "keysTells", fn := fun _ => fun
  | [d] => { results := [.lit (.bool false)], args := [d] }
  | _ => none }
def KeysTellsWrongFalsely : Prop := keysTellsRow.holds Try.pinned (OpenSpec.ofChange keysTellsWrong)

/-- 'inclinelaw03.KeysRanks': WHATEVER THE INPUT: true; the input reads as it did. -/
def keysRanksSpec : ChangeSpec := { name := "keysRanks", fn := fun _ => fun
  | [d1, d2] => { results := [.lit (.bool true)], args := [d1, d2] }
  | _ => none }
def keysRanksRow : OpenClaim := { program := "ytmblnpgeaihebaa", sum := "3e8c51b67a7a2ce59126b7387cda89aa1373d7b81820e92ff9faf6d793443302", func := "incline/inclinelaw03.KeysRanks", spec := "keysRanks", unfollowed := true, recurses := true, apart := false }
def KeysRanksSaid : Prop := keysRanksRow.holds Try.pinned (OpenSpec.ofChange keysRanksSpec)

/-- ITS FALSE NEIGHBOUR: 'it returns false'. Refute it at one input. -/
def keysRanksWrong : ChangeSpec := { name := "keysRanks", fn := fun _ => fun
  | [d1, d2] => { results := [.lit (.bool false)], args := [d1, d2] }
  | _ => none }
def KeysRanksWrongFalsely : Prop := keysRanksRow.holds Try.pinned (OpenSpec.ofChange keysRanksWrong)

/-- 'inclinelaw03.KeysPlaces': WHATEVER THE INPUT: true; the input reads as it did. -/
def keysPlacesSpec : ChangeSpec := { name := "keysPlaces", fn := fun _ => fun
  | [d1, d2, d3] => { results := [.lit (.bool true)], args := [d1, d2, d3] }
  | _ => none }
def keysPlacesRow : OpenClaim := { program := "ytmblnpgeaihebaa", sum := "3e8c51b67a7a2ce59126b7387cda89aa1373d7b81820e92ff9faf6d793443302", func := "incline/inclinelaw03.KeysPlaces", spec := "keysPlaces", unfollowed := true, recurses := true, apart := false }
def KeysPlacesSaid : Prop := keysPlacesRow.holds Try.pinned (OpenSpec.ofChange keysPlacesSpec)

/-- ITS FALSE NEIGHBOUR: 'it returns false'. Refute it at one input. -/
def keysPlacesWrong : ChangeSpec := { name := "keysPlaces", fn := fun _ => fun
  | [d1, d2, d3] => { results := [.lit (.bool false)], args := [d1, d2, d3] }
  | _ => none }
def KeysPlacesWrongFalsely : Prop := keysPlacesRow.holds Try.pinned (OpenSpec.ofChange keysPlacesWrong)

/-- 'inclinelaw03.KeysPieces': WHATEVER THE INPUT: true; the input reads as it did. -/
def keysPiecesSpec : ChangeSpec := { name := "keysPieces", fn := fun _ => fun
  | [d1, d2, d3] => { results := [.lit (.bool true)], args := [d1, d2, d3] }
  | _ => none }
def keysPiecesRow : OpenClaim := { program := "ytmblnpgeaihebaa", sum := "3e8c51b67a7a2ce59126b7387cda89aa1373d7b81820e92ff9faf6d793443302", func := "incline/inclinelaw03.KeysPieces", spec := "keysPieces", unfollowed := true, recurses := true, apart := false }
def KeysPiecesSaid : Prop := keysPiecesRow.holds Try.pinned (OpenSpec.ofChange keysPiecesSpec)

/-- ITS FALSE NEIGHBOUR: 'it returns false'. Refute it at one input. -/
def keysPiecesWrong : ChangeSpec := { name := "keysPieces", fn := fun _ => fun
  | [d1, d2, d3] => { results := [.lit (.bool false)], args := [d1, d2, d3] }
  | _ => none }
def KeysPiecesWrongFalsely : Prop := keysPiecesRow.holds Try.pinned (OpenSpec.ofChange keysPiecesWrong)

/- THE SECOND FORM. 'bulk': how many values and letters a reading holds, each counted each time it is reached (what is shared counts as often as it is met; a slice's spare places count too). A statement '..UptoSaid' is the law's where the arguments, and the package variables that the reading takes, are together of bulk at most 1048576: NARROWER than '..Said'. Prove '..Said' where nothing that the law and all that it calls make is longer than what came in: it says more and counts as full. Else prove '..UptoSaid'. A law counts once. -/
mutual
def uptoBulk {H : Type} : DataW H → Nat
  | .lit (.string bytes) => bytes.length + 1
  | .lit _ => 1
  | .nil => 1
  | .ptr d => uptoBulk d + 1
  | .slice elems spare => uptoBulkAll elems + uptoBulkAll spare + 1
  | .agg parts => uptoBulkAll parts + 1
  | .iface _ d => uptoBulk d + 1
  | .map entries => uptoBulkEntries entries + 1
  | .held _ => 1
def uptoBulkAll {H : Type} : List (DataW H) → Nat
  | [] => 0
  | d :: r => uptoBulk d + uptoBulkAll r
def uptoBulkEntries {H : Type} : List (Lit × DataW H) → Nat
  | [] => 0
  | x :: r => uptoBulkEntry x + uptoBulkEntries r
def uptoBulkEntry {H : Type} : Lit × DataW H → Nat
  | (.string bytes, d) => bytes.length + uptoBulk d + 1
  | (_, d) => uptoBulk d + 1
 end
def uptoSmall : (H : Type) → List (DataW H) → Bool := fun _ ds => decide (uptoBulkAll ds ≤ 1048576)
def OpenSpec.upto (s : _root_.Go.ChangeSpec) : _root_.Go.OpenSpec := { _root_.Go.OpenSpec.ofChange s with cond := some uptoSmall }

/-- 'inclinelaw03.KeysChecks', WHERE WHAT IT READS IS OF BULK AT MOST 1048576: true; the input reads as it did. -/
def keysChecksUptoRow : OpenClaim := { program := "ytmblnpgeaihebaa", sum := "3e8c51b67a7a2ce59126b7387cda89aa1373d7b81820e92ff9faf6d793443302", func := "incline/inclinelaw03.KeysChecks", spec := "keysChecks", unfollowed := true, recurses := true, apart := false, narrowed := true }
def KeysChecksUptoSaid : Prop := keysChecksUptoRow.holds Try.pinned (OpenSpec.upto keysChecksSpec)

/-- 'inclinelaw03.KeysTells', WHERE WHAT IT READS IS OF BULK AT MOST 1048576: true; the input reads as it did. -/
def keysTellsUptoRow : OpenClaim := { program := "ytmblnpgeaihebaa", sum := "3e8c51b67a7a2ce59126b7387cda89aa1373d7b81820e92ff9faf6d793443302", func := "incline/inclinelaw03.KeysTells", spec := "keysTells", unfollowed := true, recurses := true, apart := false, narrowed := true }
def KeysTellsUptoSaid : Prop := keysTellsUptoRow.holds Try.pinned (OpenSpec.upto keysTellsSpec)

/-- 'inclinelaw03.KeysRanks', WHERE WHAT IT READS IS OF BULK AT MOST 1048576: true; the input reads as it did. -/
def keysRanksUptoRow : OpenClaim := { program := "ytmblnpgeaihebaa", sum := "3e8c51b67a7a2ce59126b7387cda89aa1373d7b81820e92ff9faf6d793443302", func := "incline/inclinelaw03.KeysRanks", spec := "keysRanks", unfollowed := true, recurses := true, apart := false, narrowed := true }
def KeysRanksUptoSaid : Prop := keysRanksUptoRow.holds Try.pinned (OpenSpec.upto keysRanksSpec)

/-- 'inclinelaw03.KeysPlaces', WHERE WHAT IT READS IS OF BULK AT MOST 1048576: true; the input reads as it did. -/
def keysPlacesUptoRow : OpenClaim := { program := "ytmblnpgeaihebaa", sum := "3e8c51b67a7a2ce59126b7387cda89aa1373d7b81820e92ff9faf6d793443302", func := "incline/inclinelaw03.KeysPlaces", spec := "keysPlaces", unfollowed := true, recurses := true, apart := false, narrowed := true }
def KeysPlacesUptoSaid : Prop := keysPlacesUptoRow.holds Try.pinned (OpenSpec.upto keysPlacesSpec)

/-- 'inclinelaw03.KeysPieces', WHERE WHAT IT READS IS OF BULK AT MOST 1048576: true; the input reads as it did. -/
def keysPiecesUptoRow : OpenClaim := { program := "ytmblnpgeaihebaa", sum := "3e8c51b67a7a2ce59126b7387cda89aa1373d7b81820e92ff9faf6d793443302", func := "incline/inclinelaw03.KeysPieces", spec := "keysPieces", unfollowed := true, recurses := true, apart := false, narrowed := true }
def KeysPiecesUptoSaid : Prop := keysPiecesUptoRow.holds Try.pinned (OpenSpec.upto keysPiecesSpec)

end Rows
end Go.Proofs.Ytmblnpgeaihebaa
