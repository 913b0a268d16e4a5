/-
  No cell of these rows narrows 'for every input' (looked for: loops, veiled, ifaces, maps, wideKeys, modest, calm, conditions, laid).
  DERIVED. THE GIVEN ROWS OF THIS SEAT. 15 by the template 'for every input the law returns true; each argument reads behind the call as it read before'; 0 by the template 'total and deterministic' (their statements: YtnfndiafabhhdaaGreatTotals.lean).
  GIVEN WITH THE SEED: the statements are not yours to turn. If you find one false, say at which input.
  Laid BY PROGRAM, IN A SANDBOX (cutbox-rows.mjs): the forced cells as the released guide's own fill.sh prints them over the translation 87dcaaa31747c751… (all of the seat's roots in one cut). By AI agents, Wed Nov 11 2026. No macro, syntax, notation, axiom, sorry.
-/
import Derived.Test.YtnfndiafabhhdaaGreatChecked
import GoSem.Claim
import GoSem.ClaimJoined
import GoSem.ClaimMapViews
import Derived.JoinedTies
import Derived.KernelRfl
namespace Go.Proofs.YtnfndiafabhhdaaGreat
/- THE CELL 'sum', in the pinned program and in every row, IS THE sha256 OF THE DUMP (.gsa) THAT YtnfndiafabhhdaaGreatProg.lean LOADS. Nothing in Lean hashes anything: it is a label: what it is worth is what the hold of that sum in a sandbox is worth. -/
noncomputable def Tryz.pinned : Pinned := { name := "ytnfndiafabhhdaagreat", sum := "87dcaaa31747c7514cec71445dddbd7e192b960f4a1241c78d10f975d3188f60", checked := Tryz.checked }
namespace Rows
def none {H : Type} : Left H := { results := [], args := [] }

/-- 'waterhourlaw03.WearTimes': WHATEVER THE INPUT: true; the input reads as it did. -/
def wearTimesSpec : ChangeSpec := { name := "wearTimes", fn := fun _ => fun
  | [d1, d2, d3, d4] => { results := [.lit (.bool true)], args := [d1, d2, d3, d4] }
  | _ => none }
def wearTimesRow : OpenClaim := { program := "ytnfndiafabhhdaagreat", sum := "87dcaaa31747c7514cec71445dddbd7e192b960f4a1241c78d10f975d3188f60", func := "waterhour/waterhourlaw03.WearTimes", spec := "wearTimes", unfollowed := true, recurses := true, named := ["math/bits.divideError", "math/bits.overflowError"], apart := false }
def WearTimesSaid : Prop := wearTimesRow.holds Tryz.pinned (OpenSpec.ofChange wearTimesSpec)

/-- ITS FALSE NEIGHBOUR: 'it returns false'. Refute it at one input. -/
def wearTimesWrong : ChangeSpec := { name := "wearTimes", fn := fun _ => fun
  | [d1, d2, d3, d4] => { results := [.lit (.bool false)], args := [d1, d2, d3, d4] }
  | _ => none }
def WearTimesWrongFalsely : Prop := wearTimesRow.holds Tryz.pinned (OpenSpec.ofChange wearTimesWrong)

/-- 'waterhourlaw03.WearSinks': WHATEVER THE INPUT: true; the input reads as it did. -/
def wearSinksSpec : ChangeSpec := { name := "wearSinks", fn := fun _ => fun
  | [d1, d2, d3, d4] => { results := [.lit (.bool true)], args := [d1, d2, d3, d4] }
  | _ => none }
def wearSinksRow : OpenClaim := { program := "ytnfndiafabhhdaagreat", sum := "87dcaaa31747c7514cec71445dddbd7e192b960f4a1241c78d10f975d3188f60", func := "waterhour/waterhourlaw03.WearSinks", spec := "wearSinks", unfollowed := true, recurses := true, named := ["math/bits.divideError", "math/bits.overflowError"], apart := false }
def WearSinksSaid : Prop := wearSinksRow.holds Tryz.pinned (OpenSpec.ofChange wearSinksSpec)

/-- ITS FALSE NEIGHBOUR: 'it returns false'. Refute it at one input. -/
def wearSinksWrong : ChangeSpec := { name := "wearSinks", fn := fun _ => fun
  | [d1, d2, d3, d4] => { results := [.lit (.bool false)], args := [d1, d2, d3, d4] }
  | _ => none }
def WearSinksWrongFalsely : Prop := wearSinksRow.holds Tryz.pinned (OpenSpec.ofChange wearSinksWrong)

/-- 'waterhourlaw03.WearEnds': WHATEVER THE INPUT: true; the input reads as it did. -/
def wearEndsSpec : ChangeSpec := { name := "wearEnds", fn := fun _ => fun
  | [d1, d2, d3] => { results := [.lit (.bool true)], args := [d1, d2, d3] }
  | _ => none }
def wearEndsRow : OpenClaim := { program := "ytnfndiafabhhdaagreat", sum := "87dcaaa31747c7514cec71445dddbd7e192b960f4a1241c78d10f975d3188f60", func := "waterhour/waterhourlaw03.WearEnds", spec := "wearEnds", unfollowed := true, recurses := true, named := ["math/bits.divideError", "math/bits.overflowError"], apart := false }
def WearEndsSaid : Prop := wearEndsRow.holds Tryz.pinned (OpenSpec.ofChange wearEndsSpec)

/-- ITS FALSE NEIGHBOUR: 'it returns false'. Refute it at one input. -/
def wearEndsWrong : ChangeSpec := { name := "wearEnds", fn := fun _ => fun
  | [d1, d2, d3] => { results := [.lit (.bool false)], args := [d1, d2, d3] }
  | _ => none }
def WearEndsWrongFalsely : Prop := wearEndsRow.holds Tryz.pinned (OpenSpec.ofChange wearEndsWrong)

/-- 'waterhourlaw03.WearChecks': WHATEVER THE INPUT: true; the input reads as it did. -/
def wearChecksSpec : ChangeSpec := { name := "wearChecks", fn := fun _ => fun
  | [d] => { results := [.lit (.bool true)], args := [d] }
  | _ => none }
def wearChecksRow : OpenClaim := { program := "ytnfndiafabhhdaagreat", sum := "87dcaaa31747c7514cec71445dddbd7e192b960f4a1241c78d10f975d3188f60", func := "waterhour/waterhourlaw03.WearChecks", spec := "wearChecks", unfollowed := true, recurses := true, named := ["math/bits.divideError", "math/bits.overflowError"], apart := false }
def WearChecksSaid : Prop := wearChecksRow.holds Tryz.pinned (OpenSpec.ofChange wearChecksSpec)

/-- ITS FALSE NEIGHBOUR: 'it returns false'. Refute it at one input. -/
def wearChecksWrong : ChangeSpec := { name := "wearChecks", fn := fun _ => fun
  | [d] => { results := [.lit (.bool false)], args := [d] }
  | _ => none }
def WearChecksWrongFalsely : Prop := wearChecksRow.holds Tryz.pinned (OpenSpec.ofChange wearChecksWrong)

/-- 'waterhourlaw03.WearNarrow': WHATEVER THE INPUT: true; the input reads as it did. -/
def wearNarrowSpec : ChangeSpec := { name := "wearNarrow", fn := fun _ => fun
  | [d1, d2] => { results := [.lit (.bool true)], args := [d1, d2] }
  | _ => none }
def wearNarrowRow : OpenClaim := { program := "ytnfndiafabhhdaagreat", sum := "87dcaaa31747c7514cec71445dddbd7e192b960f4a1241c78d10f975d3188f60", func := "waterhour/waterhourlaw03.WearNarrow", spec := "wearNarrow", unfollowed := true, recurses := true, named := ["math/bits.divideError", "math/bits.overflowError"], apart := false }
def WearNarrowSaid : Prop := wearNarrowRow.holds Tryz.pinned (OpenSpec.ofChange wearNarrowSpec)

/-- ITS FALSE NEIGHBOUR: 'it returns false'. Refute it at one input. -/
def wearNarrowWrong : ChangeSpec := { name := "wearNarrow", fn := fun _ => fun
  | [d1, d2] => { results := [.lit (.bool false)], args := [d1, d2] }
  | _ => none }
def WearNarrowWrongFalsely : Prop := wearNarrowRow.holds Tryz.pinned (OpenSpec.ofChange wearNarrowWrong)

/-- 'waterhourlaw03.WearLater': WHATEVER THE INPUT: true; the input reads as it did. -/
def wearLaterSpec : ChangeSpec := { name := "wearLater", fn := fun _ => fun
  | [d1, d2, d3, d4] => { results := [.lit (.bool true)], args := [d1, d2, d3, d4] }
  | _ => none }
def wearLaterRow : OpenClaim := { program := "ytnfndiafabhhdaagreat", sum := "87dcaaa31747c7514cec71445dddbd7e192b960f4a1241c78d10f975d3188f60", func := "waterhour/waterhourlaw03.WearLater", spec := "wearLater", unfollowed := true, recurses := true, named := ["math/bits.divideError", "math/bits.overflowError"], apart := false }
def WearLaterSaid : Prop := wearLaterRow.holds Tryz.pinned (OpenSpec.ofChange wearLaterSpec)

/-- ITS FALSE NEIGHBOUR: 'it returns false'. Refute it at one input. -/
def wearLaterWrong : ChangeSpec := { name := "wearLater", fn := fun _ => fun
  | [d1, d2, d3, d4] => { results := [.lit (.bool false)], args := [d1, d2, d3, d4] }
  | _ => none }
def WearLaterWrongFalsely : Prop := wearLaterRow.holds Tryz.pinned (OpenSpec.ofChange wearLaterWrong)

/-- 'waterhourlaw03.WearApart': WHATEVER THE INPUT: true; the input reads as it did. -/
def wearApartSpec : ChangeSpec := { name := "wearApart", fn := fun _ => fun
  | [d1, d2, d3, d4] => { results := [.lit (.bool true)], args := [d1, d2, d3, d4] }
  | _ => none }
def wearApartRow : OpenClaim := { program := "ytnfndiafabhhdaagreat", sum := "87dcaaa31747c7514cec71445dddbd7e192b960f4a1241c78d10f975d3188f60", func := "waterhour/waterhourlaw03.WearApart", spec := "wearApart", unfollowed := true, recurses := true, named := ["math/bits.divideError", "math/bits.overflowError"], apart := false }
def WearApartSaid : Prop := wearApartRow.holds Tryz.pinned (OpenSpec.ofChange wearApartSpec)

/-- ITS FALSE NEIGHBOUR: 'it returns false'. Refute it at one input. -/
def wearApartWrong : ChangeSpec := { name := "wearApart", fn := fun _ => fun
  | [d1, d2, d3, d4] => { results := [.lit (.bool false)], args := [d1, d2, d3, d4] }
  | _ => none }
def WearApartWrongFalsely : Prop := wearApartRow.holds Tryz.pinned (OpenSpec.ofChange wearApartWrong)

/-- 'waterhourlaw03.WearThree': WHATEVER THE INPUT: true; the input reads as it did. -/
def wearThreeSpec : ChangeSpec := { name := "wearThree", fn := fun _ => fun
  | [d1, d2] => { results := [.lit (.bool true)], args := [d1, d2] }
  | _ => none }
def wearThreeRow : OpenClaim := { program := "ytnfndiafabhhdaagreat", sum := "87dcaaa31747c7514cec71445dddbd7e192b960f4a1241c78d10f975d3188f60", func := "waterhour/waterhourlaw03.WearThree", spec := "wearThree", unfollowed := true, recurses := true, named := ["math/bits.divideError", "math/bits.overflowError"], apart := false }
def WearThreeSaid : Prop := wearThreeRow.holds Tryz.pinned (OpenSpec.ofChange wearThreeSpec)

/-- ITS FALSE NEIGHBOUR: 'it returns false'. Refute it at one input. -/
def wearThreeWrong : ChangeSpec := { name := "wearThree", fn := fun _ => fun
  | [d1, d2] => { results := [.lit (.bool false)], args := [d1, d2] }
  | _ => none }
def WearThreeWrongFalsely : Prop := wearThreeRow.holds Tryz.pinned (OpenSpec.ofChange wearThreeWrong)

/-- 'waterhourlaw03.WearScaled': WHATEVER THE INPUT: true; the input reads as it did. -/
def wearScaledSpec : ChangeSpec := { name := "wearScaled", fn := fun _ => fun
  | [d1, d2, d3, d4] => { results := [.lit (.bool true)], args := [d1, d2, d3, d4] }
  | _ => none }
def wearScaledRow : OpenClaim := { program := "ytnfndiafabhhdaagreat", sum := "87dcaaa31747c7514cec71445dddbd7e192b960f4a1241c78d10f975d3188f60", func := "waterhour/waterhourlaw03.WearScaled", spec := "wearScaled", unfollowed := true, recurses := true, named := ["math/bits.divideError", "math/bits.overflowError"], apart := false }
def WearScaledSaid : Prop := wearScaledRow.holds Tryz.pinned (OpenSpec.ofChange wearScaledSpec)

/-- ITS FALSE NEIGHBOUR: 'it returns false'. Refute it at one input. -/
def wearScaledWrong : ChangeSpec := { name := "wearScaled", fn := fun _ => fun
  | [d1, d2, d3, d4] => { results := [.lit (.bool false)], args := [d1, d2, d3, d4] }
  | _ => none }
def WearScaledWrongFalsely : Prop := wearScaledRow.holds Tryz.pinned (OpenSpec.ofChange wearScaledWrong)

/-- 'waterhourlaw03.WearBounds': WHATEVER THE INPUT: true; the input reads as it did. -/
def wearBoundsSpec : ChangeSpec := { name := "wearBounds", fn := fun _ => fun
  | [d] => { results := [.lit (.bool true)], args := [d] }
  | _ => none }
def wearBoundsRow : OpenClaim := { program := "ytnfndiafabhhdaagreat", sum := "87dcaaa31747c7514cec71445dddbd7e192b960f4a1241c78d10f975d3188f60", func := "waterhour/waterhourlaw03.WearBounds", spec := "wearBounds", unfollowed := true, recurses := true, named := ["math/bits.divideError", "math/bits.overflowError"], apart := false }
def WearBoundsSaid : Prop := wearBoundsRow.holds Tryz.pinned (OpenSpec.ofChange wearBoundsSpec)

/-- ITS FALSE NEIGHBOUR: 'it returns false'. Refute it at one input. -/
def wearBoundsWrong : ChangeSpec := { name := "wearBounds", fn := fun _ => fun
  | [d] => { results := [.lit (.bool false)], args := [d] }
  | _ => none }
def WearBoundsWrongFalsely : Prop := wearBoundsRow.holds Tryz.pinned (OpenSpec.ofChange wearBoundsWrong)

/-- 'waterhourlaw03.WearClashes': WHATEVER THE INPUT: true; the input reads as it did. -/
def wearClashesSpec : ChangeSpec := { name := "wearClashes", fn := fun _ => fun
  | [d1, d2, d3] => { results := [.lit (.bool true)], args := [d1, d2, d3] }
  | _ => none }
def wearClashesRow : OpenClaim := { program := "ytnfndiafabhhdaagreat", sum := "87dcaaa31747c7514cec71445dddbd7e192b960f4a1241c78d10f975d3188f60", func := "waterhour/waterhourlaw03.WearClashes", spec := "wearClashes", unfollowed := true, recurses := true, named := ["math/bits.divideError", "math/bits.overflowError"], apart := false }
def WearClashesSaid : Prop := wearClashesRow.holds Tryz.pinned (OpenSpec.ofChange wearClashesSpec)

/-- ITS FALSE NEIGHBOUR: 'it returns false'. Refute it at one input. -/
def wearClashesWrong : ChangeSpec := { name := "wearClashes", fn := fun _ => fun
  | [d1, d2, d3] => { results := [.lit (.bool false)], args := [d1, d2, d3] }
  | _ => none }
def WearClashesWrongFalsely : Prop := wearClashesRow.holds Tryz.pinned (OpenSpec.ofChange wearClashesWrong)

/-- 'waterhourlaw03.WearTrue': WHATEVER THE INPUT: true; the input reads as it did. -/
def wearTrueSpec : ChangeSpec := { name := "wearTrue", fn := fun _ => fun
  | [d1, d2, d3, d4, d5] => { results := [.lit (.bool true)], args := [d1, d2, d3, d4, d5] }
  | _ => none }
def wearTrueRow : OpenClaim := { program := "ytnfndiafabhhdaagreat", sum := "87dcaaa31747c7514cec71445dddbd7e192b960f4a1241c78d10f975d3188f60", func := "waterhour/waterhourlaw03.WearTrue", spec := "wearTrue", unfollowed := true, recurses := true, named := ["math/bits.divideError", "math/bits.overflowError"], apart := false }
def WearTrueSaid : Prop := wearTrueRow.holds Tryz.pinned (OpenSpec.ofChange wearTrueSpec)

/-- ITS FALSE NEIGHBOUR: 'it returns false'. Refute it at one input. -/
def wearTrueWrong : ChangeSpec := { name := "wearTrue", fn := fun _ => fun
  | [d1, d2, d3, d4, d5] => { results := [.lit (.bool false)], args := [d1, d2, d3, d4, d5] }
  | _ => none }
def WearTrueWrongFalsely : Prop := wearTrueRow.holds Tryz.pinned (OpenSpec.ofChange wearTrueWrong)

/-- 'waterhourlaw03.WearCases': WHATEVER THE INPUT: true; the input reads as it did. -/
def wearCasesSpec : ChangeSpec := { name := "wearCases", fn := fun _ => fun
  | [d1, d2, d3] => { results := [.lit (.bool true)], args := [d1, d2, d3] }
  | _ => none }
def wearCasesRow : OpenClaim := { program := "ytnfndiafabhhdaagreat", sum := "87dcaaa31747c7514cec71445dddbd7e192b960f4a1241c78d10f975d3188f60", func := "waterhour/waterhourlaw03.WearCases", spec := "wearCases", unfollowed := true, recurses := true, named := ["math/bits.divideError", "math/bits.overflowError"], apart := false }
def WearCasesSaid : Prop := wearCasesRow.holds Tryz.pinned (OpenSpec.ofChange wearCasesSpec)

/-- ITS FALSE NEIGHBOUR: 'it returns false'. Refute it at one input. -/
def wearCasesWrong : ChangeSpec := { name := "wearCases", fn := fun _ => fun
  | [d1, d2, d3] => { results := [.lit (.bool false)], args := [d1, d2, d3] }
  | _ => none }
def WearCasesWrongFalsely : Prop := wearCasesRow.holds Tryz.pinned (OpenSpec.ofChange wearCasesWrong)

/-- 'waterhourlaw03.WearEither': WHATEVER THE INPUT: true; the input reads as it did. -/
def wearEitherSpec : ChangeSpec := { name := "wearEither", fn := fun _ => fun
  | [d1, d2, d3, d4] => { results := [.lit (.bool true)], args := [d1, d2, d3, d4] }
  | _ => none }
def wearEitherRow : OpenClaim := { program := "ytnfndiafabhhdaagreat", sum := "87dcaaa31747c7514cec71445dddbd7e192b960f4a1241c78d10f975d3188f60", func := "waterhour/waterhourlaw03.WearEither", spec := "wearEither", unfollowed := true, recurses := true, named := ["math/bits.divideError", "math/bits.overflowError"], apart := false }
def WearEitherSaid : Prop := wearEitherRow.holds Tryz.pinned (OpenSpec.ofChange wearEitherSpec)

/-- ITS FALSE NEIGHBOUR: 'it returns false'. Refute it at one input. -/
def wearEitherWrong : ChangeSpec := { name := "wearEither", fn := fun _ => fun
  | [d1, d2, d3, d4] => { results := [.lit (.bool false)], args := [d1, d2, d3, d4] }
  | _ => none }
def WearEitherWrongFalsely : Prop := wearEitherRow.holds Tryz.pinned (OpenSpec.ofChange wearEitherWrong)

/-- 'waterhourlaw03.WearMore': WHATEVER THE INPUT: true; the input reads as it did. -/
def wearMoreSpec : ChangeSpec := { name := "wearMore", fn := fun _ => fun
  | [d1, d2, d3, d4, d5] => { results := [.lit (.bool true)], args := [d1, d2, d3, d4, d5] }
  | _ => none }
def wearMoreRow : OpenClaim := { program := "ytnfndiafabhhdaagreat", sum := "87dcaaa31747c7514cec71445dddbd7e192b960f4a1241c78d10f975d3188f60", func := "waterhour/waterhourlaw03.WearMore", spec := "wearMore", unfollowed := true, recurses := true, named := ["math/bits.divideError", "math/bits.overflowError"], apart := false }
def WearMoreSaid : Prop := wearMoreRow.holds Tryz.pinned (OpenSpec.ofChange wearMoreSpec)

/-- ITS FALSE NEIGHBOUR: 'it returns false'. Refute it at one input. -/
def wearMoreWrong : ChangeSpec := { name := "wearMore", fn := fun _ => fun
  | [d1, d2, d3, d4, d5] => { results := [.lit (.bool false)], args := [d1, d2, d3, d4, d5] }
  | _ => none }
def WearMoreWrongFalsely : Prop := wearMoreRow.holds Tryz.pinned (OpenSpec.ofChange wearMoreWrong)

/- THE SECOND FORM. 'bulk': how many values and letters a reading holds, each counted each time it is reached (what is shared counts as often as it is met; a slice's spare places count too). A statement '..UptoSaid' is the law's where the arguments, and the package variables that the reading takes, are together of bulk at most 1048576: NARROWER than '..Said'. Prove '..Said' where nothing that the law and all that it calls make is longer than what came in: it says more and counts as full. Else prove '..UptoSaid'. A law counts once. -/
mutual
def uptoBulk {H : Type} : DataW H → Nat
  | .lit (.string bytes) => bytes.length + 1
  | .lit _ => 1
  | .nil => 1
  | .ptr d => uptoBulk d + 1
  | .slice elems spare => uptoBulkAll elems + uptoBulkAll spare + 1
  | .agg parts => uptoBulkAll parts + 1
  | .iface _ d => uptoBulk d + 1
  | .map entries => uptoBulkEntries entries + 1
  | .held _ => 1
def uptoBulkAll {H : Type} : List (DataW H) → Nat
  | [] => 0
  | d :: r => uptoBulk d + uptoBulkAll r
def uptoBulkEntries {H : Type} : List (Lit × DataW H) → Nat
  | [] => 0
  | x :: r => uptoBulkEntry x + uptoBulkEntries r
def uptoBulkEntry {H : Type} : Lit × DataW H → Nat
  | (.string bytes, d) => bytes.length + uptoBulk d + 1
  | (_, d) => uptoBulk d + 1
 end
def uptoSmall : (H : Type) → List (DataW H) → Bool := fun _ ds => decide (uptoBulkAll ds ≤ 1048576)
def OpenSpec.upto (s : _root_.Go.ChangeSpec) : _root_.Go.OpenSpec := { _root_.Go.OpenSpec.ofChange s with cond := some uptoSmall }

/-- 'waterhourlaw03.WearTimes', WHERE WHAT IT READS IS OF BULK AT MOST 1048576: true; the input reads as it did. -/
def wearTimesUptoRow : OpenClaim := { program := "ytnfndiafabhhdaagreat", sum := "87dcaaa31747c7514cec71445dddbd7e192b960f4a1241c78d10f975d3188f60", func := "waterhour/waterhourlaw03.WearTimes", spec := "wearTimes", unfollowed := true, recurses := true, named := ["math/bits.divideError", "math/bits.overflowError"], apart := false, narrowed := true }
def WearTimesUptoSaid : Prop := wearTimesUptoRow.holds Tryz.pinned (OpenSpec.upto wearTimesSpec)

/-- 'waterhourlaw03.WearSinks', WHERE WHAT IT READS IS OF BULK AT MOST 1048576: true; the input reads as it did. -/
def wearSinksUptoRow : OpenClaim := { program := "ytnfndiafabhhdaagreat", sum := "87dcaaa31747c7514cec71445dddbd7e192b960f4a1241c78d10f975d3188f60", func := "waterhour/waterhourlaw03.WearSinks", spec := "wearSinks", unfollowed := true, recurses := true, named := ["math/bits.divideError", "math/bits.overflowError"], apart := false, narrowed := true }
def WearSinksUptoSaid : Prop := wearSinksUptoRow.holds Tryz.pinned (OpenSpec.upto wearSinksSpec)

/-- 'waterhourlaw03.WearEnds', WHERE WHAT IT READS IS OF BULK AT MOST 1048576: true; the input reads as it did. -/
def wearEndsUptoRow : OpenClaim := { program := "ytnfndiafabhhdaagreat", sum := "87dcaaa31747c7514cec71445dddbd7e192b960f4a1241c78d10f975d3188f60", func := "waterhour/waterhourlaw03.WearEnds", spec := "wearEnds", unfollowed := true, recurses := true, named := ["math/bits.divideError", "math/bits.overflowError"], apart := false, narrowed := true }
def WearEndsUptoSaid : Prop := wearEndsUptoRow.holds Tryz.pinned (OpenSpec.upto wearEndsSpec)

/-- 'waterhourlaw03.WearChecks', WHERE WHAT IT READS IS OF BULK AT MOST 1048576: true; the input reads as it did. -/
def wearChecksUptoRow : OpenClaim := { program := "ytnfndiafabhhdaagreat", sum := "87dcaaa31747c7514cec71445dddbd7e192b960f4a1241c78d10f975d3188f60", func := "waterhour/waterhourlaw03.WearChecks", spec := "wearChecks", unfollowed := true, recurses := true, named := ["math/bits.divideError", "math/bits.overflowError"], apart := false, narrowed := true }
def WearChecksUptoSaid : Prop := wearChecksUptoRow.holds Tryz.pinned (OpenSpec.upto wearChecksSpec)

/-- 'waterhourlaw03.WearNarrow', WHERE WHAT IT READS IS OF BULK AT MOST 1048576: true; the input reads as it did. -/
def wearNarrowUptoRow : OpenClaim := { program := "ytnfndiafabhhdaagreat", sum := "87dcaaa31747c7514cec71445dddbd7e192b960f4a1241c78d10f975d3188f60", func := "waterhour/waterhourlaw03.WearNarrow", spec := "wearNarrow", unfollowed := true, recurses := true, named := ["math/bits.divideError", "math/bits.overflowError"], apart := false, narrowed := true }
def WearNarrowUptoSaid : Prop := wearNarrowUptoRow.holds Tryz.pinned (OpenSpec.upto wearNarrowSpec)

/-- 'waterhourlaw03.WearLater', WHERE WHAT IT READS IS OF BULK AT MOST 1048576: true; the input reads as it did. -/
def wearLaterUptoRow : OpenClaim := { program := "ytnfndiafabhhdaagreat", sum := "87dcaaa31747c7514cec71445dddbd7e192b960f4a1241c78d10f975d3188f60", func := "waterhour/waterhourlaw03.WearLater", spec := "wearLater", unfollowed := true, recurses := true, named := ["math/bits.divideError", "math/bits.overflowError"], apart := false, narrowed := true }
def WearLaterUptoSaid : Prop := wearLaterUptoRow.holds Tryz.pinned (OpenSpec.upto wearLaterSpec)

/-- 'waterhourlaw03.WearApart', WHERE WHAT IT READS IS OF BULK AT MOST 1048576: true; the input reads as it did. -/
def wearApartUptoRow : OpenClaim := { program := "ytnfndiafabhhdaagreat", sum := "87dcaaa31747c7514cec71445dddbd7e192b960f4a1241c78d10f975d3188f60", func := "waterhour/waterhourlaw03.WearApart", spec := "wearApart", unfollowed := true, recurses := true, named := ["math/bits.divideError", "math/bits.overflowError"], apart := false, narrowed := true }
def WearApartUptoSaid : Prop := wearApartUptoRow.holds Tryz.pinned (OpenSpec.upto wearApartSpec)

/-- 'waterhourlaw03.WearThree', WHERE WHAT IT READS IS OF BULK AT MOST 1048576: true; the input reads as it did. -/
def wearThreeUptoRow : OpenClaim := { program := "ytnfndiafabhhdaagreat", sum := "87dcaaa31747c7514cec71445dddbd7e192b960f4a1241c78d10f975d3188f60", func := "waterhour/waterhourlaw03.WearThree", spec := "wearThree", unfollowed := true, recurses := true, named := ["math/bits.divideError", "math/bits.overflowError"], apart := false, narrowed := true }
def WearThreeUptoSaid : Prop := wearThreeUptoRow.holds Tryz.pinned (OpenSpec.upto wearThreeSpec)

/-- 'waterhourlaw03.WearScaled', WHERE WHAT IT READS IS OF BULK AT MOST 1048576: true; the input reads as it did. -/
def wearScaledUptoRow : OpenClaim := { program := "ytnfndiafabhhdaagreat", sum := "87dcaaa31747c7514cec71445dddbd7e192b960f4a1241c78d10f975d3188f60", func := "waterhour/waterhourlaw03.WearScaled", spec := "wearScaled", unfollowed := true, recurses := true, named := ["math/bits.divideError", "math/bits.overflowError"], apart := false, narrowed := true }
def WearScaledUptoSaid : Prop := wearScaledUptoRow.holds Tryz.pinned (OpenSpec.upto wearScaledSpec)

/-- 'waterhourlaw03.WearBounds', WHERE WHAT IT READS IS OF BULK AT MOST 1048576: true; the input reads as it did. -/
def wearBoundsUptoRow : OpenClaim := { program := "ytnfndiafabhhdaagreat", sum := "87dcaaa31747c7514cec71445dddbd7e192b960f4a1241c78d10f975d3188f60", func := "waterhour/waterhourlaw03.WearBounds", spec := "wearBounds", unfollowed := true, recurses := true, named := ["math/bits.divideError", "math/bits.overflowError"], apart := false, narrowed := true }
def WearBoundsUptoSaid : Prop := wearBoundsUptoRow.holds Tryz.pinned (OpenSpec.upto wearBoundsSpec)

/-- 'waterhourlaw03.WearClashes', WHERE WHAT IT READS IS OF BULK AT MOST 1048576: true; the input reads as it did. -/
def wearClashesUptoRow : OpenClaim := { program := "ytnfndiafabhhdaagreat", sum := "87dcaaa31747c7514cec71445dddbd7e192b960f4a1241c78d10f975d3188f60", func := "waterhour/waterhourlaw03.WearClashes", spec := "wearClashes", unfollowed := true, recurses := true, named := ["math/bits.divideError", "math/bits.overflowError"], apart := false, narrowed := true }
def WearClashesUptoSaid : Prop := wearClashesUptoRow.holds Tryz.pinned (OpenSpec.upto wearClashesSpec)

/-- 'waterhourlaw03.WearTrue', WHERE WHAT IT READS IS OF BULK AT MOST 1048576: true; the input reads as it did. -/
def wearTrueUptoRow : OpenClaim := { program := "ytnfndiafabhhdaagreat", sum := "87dcaaa31747c7514cec71445dddbd7e192b960f4a1241c78d10f975d3188f60", func := "waterhour/waterhourlaw03.WearTrue", spec := "wearTrue", unfollowed := true, recurses := true, named := ["math/bits.divideError", "math/bits.overflowError"], apart := false, narrowed := true }
def WearTrueUptoSaid : Prop := wearTrueUptoRow.holds Tryz.pinned (OpenSpec.upto wearTrueSpec)

/-- 'waterhourlaw03.WearCases', WHERE WHAT IT READS IS OF BULK AT MOST 1048576: true; the input reads as it did. -/
def wearCasesUptoRow : OpenClaim := { program := "ytnfndiafabhhdaagreat", sum := "87dcaaa31747c7514cec71445dddbd7e192b960f4a1241c78d10f975d3188f60", func := "waterhour/waterhourlaw03.WearCases", spec := "wearCases", unfollowed := true, recurses := true, named := ["math/bits.divideError", "math/bits.overflowError"], apart := false, narrowed := true }
def WearCasesUptoSaid : Prop := wearCasesUptoRow.holds Tryz.pinned (OpenSpec.upto wearCasesSpec)

/-- 'waterhourlaw03.WearEither', WHERE WHAT IT READS IS OF BULK AT MOST 1048576: true; the input reads as it did. -/
def wearEitherUptoRow : OpenClaim := { program := "ytnfndiafabhhdaagreat", sum := "87dcaaa31747c7514cec71445dddbd7e192b960f4a1241c78d10f975d3188f60", func := "waterhour/waterhourlaw03.WearEither", spec := "wearEither", unfollowed := true, recurses := true, named := ["math/bits.divideError", "math/bits.overflowError"], apart := false, narrowed := true }
def WearEitherUptoSaid : Prop := wearEitherUptoRow.holds Tryz.pinned (OpenSpec.upto wearEitherSpec)

/-- 'waterhourlaw03.WearMore', WHERE WHAT IT READS IS OF BULK AT MOST 1048576: true; the input reads as it did. -/
def wearMoreUptoRow : OpenClaim := { program := "ytnfndiafabhhdaagreat", sum := "87dcaaa31747c7514cec71445dddbd7e192b960f4a1241c78d10f975d3188f60", func := "waterhour/waterhourlaw03.WearMore", spec := "wearMore", unfollowed := true, recurses := true, named := ["math/bits.divideError", "math/bits.overflowError"], apart := false, narrowed := true }
def WearMoreUptoSaid : Prop := wearMoreUptoRow.holds Tryz.pinned (OpenSpec.upto wearMoreSpec)

end Rows
end Go.Proofs.YtnfndiafabhhdaaGreat
