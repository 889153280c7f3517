/-
  No cell of these rows narrows 'for every input' (looked for: loops, veiled, ifaces, maps, wideKeys, modest, calm, conditions, laid).
  DERIVED. THE GIVEN ROWS OF THIS SEAT. 6 by the template 'for every input the law returns true; each argument reads behind the call as it read before'; 0 by the template 'total and deterministic' (their statements: YtagnpmmcoaemeaaTotals.lean).
  GIVEN WITH THE SEED: the statements are not yours to turn. If you find one false, say at which input.
  Laid BY PROGRAM, IN A SANDBOX (cutbox-rows.mjs): the forced cells as the released guide's own fill.sh prints them over the translation c3b885b5dabd4496… (all of the seat's roots in one cut). By AI agents, Wed Nov 11 2026. No macro, syntax, notation, axiom, sorry.
-/
import Derived.Test.YtagnpmmcoaemeaaChecked
import GoSem.Claim
import GoSem.ClaimJoined
import GoSem.ClaimMapViews
import Derived.JoinedTies
import Derived.KernelRfl
namespace Go.Proofs.Ytagnpmmcoaemeaa
/- THE CELL 'sum', in the pinned program and in every row, IS THE sha256 OF THE DUMP (.gsa) THAT YtagnpmmcoaemeaaProg.lean LOADS. Nothing in Lean hashes anything: it is a label: what it is worth is what the hold of that sum in a sandbox is worth. -/
noncomputable def Try.pinned : Pinned := { name := "ytagnpmmcoaemeaa", sum := "c3b885b5dabd44966a167ec4b99533e3f1503b15bd6bee9226969a599897512e", checked := Try.checked }
namespace Rows
def none {H : Type} : Left H := { results := [], args := [] }

/-- 'rivuletlaw16.RankPlans': WHATEVER THE INPUT: true; the input reads as it did. -/
def rankPlansSpec : ChangeSpec := { name := "rankPlans", fn := fun _ => fun
  | [d1, d2, d3] => { results := [.lit (.bool true)], args := [d1, d2, d3] }
  | _ => none }
def rankPlansRow : OpenClaim := { program := "ytagnpmmcoaemeaa", sum := "c3b885b5dabd44966a167ec4b99533e3f1503b15bd6bee9226969a599897512e", func := "rivulet/rivuletlaw16.RankPlans", spec := "rankPlans", unfollowed := true, recurses := true, apart := false }
def RankPlansSaid : Prop := rankPlansRow.holds Try.pinned (OpenSpec.ofChange rankPlansSpec)

/-- ITS FALSE NEIGHBOUR: 'it returns false'. Refute it at one input. -/
def rankPlansWrong : ChangeSpec := { name := "rankPlans", fn := fun _ => fun
  | [d1, d2, d3] => { results := [.lit (.bool false)], args := [d1, d2, d3] }
  | _ => none }
def RankPlansWrongFalsely : Prop := rankPlansRow.holds Try.pinned (OpenSpec.ofChange rankPlansWrong)

/-- 'rivuletlaw16.RankTrees': WHATEVER THE INPUT: true; the input reads as it did. -/
def rankTreesSpec : ChangeSpec := { name := "rankTrees", fn := fun _ => fun
  | [d1, d2] => { results := [.lit (.bool true)], args := [d1, d2] }
  | _ => none }
def rankTreesRow : OpenClaim := { program := "ytagnpmmcoaemeaa", sum := "c3b885b5dabd44966a167ec4b99533e3f1503b15bd6bee9226969a599897512e", func := "rivulet/rivuletlaw16.RankTrees", spec := "rankTrees", unfollowed := true, recurses := true, apart := false }
def RankTreesSaid : Prop := rankTreesRow.holds Try.pinned (OpenSpec.ofChange rankTreesSpec)

/-- ITS FALSE NEIGHBOUR: 'it returns false'. Refute it at one input. -/
def rankTreesWrong : ChangeSpec := { name := "rankTrees", fn := fun _ => fun
  | [d1, d2] => { results := [.lit (.bool false)], args := [d1, d2] }
  | _ => none }
def RankTreesWrongFalsely : Prop := rankTreesRow.holds Try.pinned (OpenSpec.ofChange rankTreesWrong)

/-- 'rivuletlaw16.RankTurns': WHATEVER THE INPUT: true; the input reads as it did. -/
def rankTurnsSpec : ChangeSpec := { name := "rankTurns", fn := fun _ => fun
  | [d1, d2, d3] => { results := [.lit (.bool true)], args := [d1, d2, d3] }
  | _ => none }
def rankTurnsRow : OpenClaim := { program := "ytagnpmmcoaemeaa", sum := "c3b885b5dabd44966a167ec4b99533e3f1503b15bd6bee9226969a599897512e", func := "rivulet/rivuletlaw16.RankTurns", spec := "rankTurns", unfollowed := true, recurses := true, apart := false }
def RankTurnsSaid : Prop := rankTurnsRow.holds Try.pinned (OpenSpec.ofChange rankTurnsSpec)

/-- ITS FALSE NEIGHBOUR: 'it returns false'. Refute it at one input. -/
def rankTurnsWrong : ChangeSpec := { name := "rankTurns", fn := fun _ => fun
  | [d1, d2, d3] => { results := [.lit (.bool false)], args := [d1, d2, d3] }
  | _ => none }
def RankTurnsWrongFalsely : Prop := rankTurnsRow.holds Try.pinned (OpenSpec.ofChange rankTurnsWrong)

/-- 'rivuletlaw16.RankClimbs': WHATEVER THE INPUT: true; the input reads as it did. -/
def rankClimbsSpec : ChangeSpec := { name := "rankClimbs", fn := fun _ => fun
  | [d] => { results := [.lit (.bool true)], args := [d] }
  | _ => none }
def rankClimbsRow : OpenClaim := { program := "ytagnpmmcoaemeaa", sum := "c3b885b5dabd44966a167ec4b99533e3f1503b15bd6bee9226969a599897512e", func := "rivulet/rivuletlaw16.RankClimbs", spec := "rankClimbs", unfollowed := true, recurses := true, apart := false }
def RankClimbsSaid : Prop := rankClimbsRow.holds Try.pinned (OpenSpec.ofChange rankClimbsSpec)

/-- ITS FALSE NEIGHBOUR: 'it returns false'. Refute it at one input. -/
def rankClimbsWrong : ChangeSpec := { name := "rankClimbs", fn := fun _ => fun
  | [d] => { results := [.lit (.bool false)], args := [d] }
  | _ => none }
def RankClimbsWrongFalsely : Prop := rankClimbsRow.holds Try.pinned (OpenSpec.ofChange rankClimbsWrong)

/-- 'rivuletlaw16.RankFirst': WHATEVER THE INPUT: true; the input reads as it did. -/
def rankFirstSpec : ChangeSpec := { name := "rankFirst", fn := fun _ => fun
  | [d] => { results := [.lit (.bool true)], args := [d] }
  | _ => none }
def rankFirstRow : OpenClaim := { program := "ytagnpmmcoaemeaa", sum := "c3b885b5dabd44966a167ec4b99533e3f1503b15bd6bee9226969a599897512e", func := "rivulet/rivuletlaw16.RankFirst", spec := "rankFirst", unfollowed := true, recurses := true, apart := false }
def RankFirstSaid : Prop := rankFirstRow.holds Try.pinned (OpenSpec.ofChange rankFirstSpec)

/-- ITS FALSE NEIGHBOUR: 'it returns false'. Refute it at one input. -/
def rankFirstWrong : ChangeSpec := { name := "rankFirst", fn := fun _ => fun
  | [d] => { results := [.lit (.bool false)], args := [d] }
  | _ => none }
def RankFirstWrongFalsely : Prop := rankFirstRow.holds Try.pinned (OpenSpec.ofChange rankFirstWrong)

/-- 'rivuletlaw16.RankUnder': WHATEVER THE INPUT: true; the input reads as it did. -/
def rankUnderSpec : ChangeSpec := { name := "rankUnder", fn := fun _ => fun
  | [d] => { results := [.lit (.bool true)], args := [d] }
  | _ => none }
def rankUnderRow : OpenClaim := { program := "ytagnpmmcoaemeaa", sum := "c3b885b5dabd44966a167ec4b99533e3f1503b15bd6bee9226969a599897512e", func := "rivulet/rivuletlaw16.RankUnder", spec := "rankUnder", unfollowed := true, recurses := true, apart := false }
def RankUnderSaid : Prop := rankUnderRow.holds Try.pinned (OpenSpec.ofChange rankUnderSpec)

/-- ITS FALSE NEIGHBOUR: 'it returns false'. Refute it at one input. -/
def rankUnderWrong : ChangeSpec := { name := "rankUnder", fn := fun _ => fun
  | [d] => { results := [.lit (.bool false)], args := [d] }
  | _ => none }
def RankUnderWrongFalsely : Prop := rankUnderRow.holds Try.pinned (OpenSpec.ofChange rankUnderWrong)

/- THE SECOND FORM. 'bulk': how many values and letters a reading holds, each counted each time it is reached (what is shared counts as often as it is met; a slice's spare places count too). A statement '..UptoSaid' is the law's where the arguments, and the package variables that the reading takes, are together of bulk at most 1048576: NARROWER than '..Said'. Prove '..Said' where nothing that the law and all that it calls make is longer than what came in: it says more and counts as full. Else prove '..UptoSaid'. A law counts once. -/
mutual
def uptoBulk {H : Type} : DataW H → Nat
  | .lit (.string bytes) => bytes.length + 1
  | .lit _ => 1
  | .nil => 1
  | .ptr d => uptoBulk d + 1
  | .slice elems spare => uptoBulkAll elems + uptoBulkAll spare + 1
  | .agg parts => uptoBulkAll parts + 1
  | .iface _ d => uptoBulk d + 1
  | .map entries => uptoBulkEntries entries + 1
  | .held _ => 1
def uptoBulkAll {H : Type} : List (DataW H) → Nat
  | [] => 0
  | d :: r => uptoBulk d + uptoBulkAll r
def uptoBulkEntries {H : Type} : List (Lit × DataW H) → Nat
  | [] => 0
  | x :: r => uptoBulkEntry x + uptoBulkEntries r
def uptoBulkEntry {H : Type} : Lit × DataW H → Nat
  | (.string bytes, d) => bytes.length + uptoBulk d + 1
  | (_, d) => uptoBulk d + 1
 end
def uptoSmall : (H : Type) → List (DataW H) → Bool := fun _ ds => decide (uptoBulkAll ds ≤ 1048576)
def OpenSpec.upto (s : _root_.Go.ChangeSpec) : _root_.Go.OpenSpec := { _root_.Go.OpenSpec.ofChange s with cond := some uptoSmall }

/-- 'rivuletlaw16.RankPlans', WHERE WHAT IT READS IS OF BULK AT MOST 1048576: true; the input reads as it did. -/
def rankPlansUptoRow : OpenClaim := { program := "ytagnpmmcoaemeaa", sum := "c3b885b5dabd44966a167ec4b99533e3f1503b15bd6bee9226969a599897512e", func := "rivulet/rivuletlaw16.RankPlans", spec := "rankPlans", unfollowed := true, recurses := true, apart := false, narrowed := true }
def RankPlansUptoSaid : Prop := rankPlansUptoRow.holds Try.pinned (OpenSpec.upto rankPlansSpec)

/-- 'rivuletlaw16.RankTrees', WHERE WHAT IT READS IS OF BULK AT MOST 1048576: true; the input reads as it did. -/
def rankTreesUptoRow : OpenClaim := { program := "ytagnpmmcoaemeaa", sum := "c3b885b5dabd44966a167ec4b99533e3f1503b15bd6bee9226969a599897512e", func := "rivulet/rivuletlaw16.RankTrees", spec := "rankTrees", unfollowed := true, recurses := true, apart := false, narrowed := true }
def RankTreesUptoSaid : Prop := rankTreesUptoRow.holds Try.pinned (OpenSpec.upto rankTreesSpec)

/-- 'rivuletlaw16.RankTurns', WHERE WHAT IT READS IS OF BULK AT MOST 1048576: true; the input reads as it did. -/
def rankTurnsUptoRow : OpenClaim := { program := "ytagnpmmcoaemeaa", sum := "c3b885b5dabd44966a167ec4b99533e3f1503b15bd6bee9226969a599897512e", func := "rivulet/rivuletlaw16.RankTurns", spec := "rankTurns", unfollowed := true, recurses := true, apart := false, narrowed := true }
def RankTurnsUptoSaid : Prop := rankTurnsUptoRow.holds Try.pinned (OpenSpec.upto rankTurnsSpec)

/-- 'rivuletlaw16.RankClimbs', WHERE WHAT IT READS IS OF BULK AT MOST 1048576: true; the input reads as it did. -/
def rankClimbsUptoRow : OpenClaim := { program := "ytagnpmmcoaemeaa", sum := "c3b885b5dabd44966a167ec4b99533e3f1503b15bd6bee9226969a599897512e", func := "rivulet/rivuletlaw16.RankClimbs", spec := "rankClimbs", unfollowed := true, recurses := true, apart := false, narrowed := true }
def RankClimbsUptoSaid : Prop := rankClimbsUptoRow.holds Try.pinned (OpenSpec.upto rankClimbsSpec)

/-- 'rivuletlaw16.RankFirst', WHERE WHAT IT READS IS OF BULK AT MOST 1048576: true; the input reads as it did. -/
def rankFirstUptoRow : OpenClaim := { program := "ytagnpmmcoaemeaa", sum := "c3b885b5dabd44966a167ec4b99533e3f1503b15bd6bee9226969a599897512e", func := "rivulet/rivuletlaw16.RankFirst", spec := "rankFirst", unfollowed := true, recurses := true, apart := false, narrowed := true }
def RankFirstUptoSaid : Prop := rankFirstUptoRow.holds Try.pinned (OpenSpec.upto rankFirstSpec)

/-- 'rivuletlaw16.RankUnder', WHERE WHAT IT READS IS OF BULK AT MOST 1048576: true; the input reads as it did. -/
def rankUnderUptoRow : OpenClaim := { program := "ytagnpmmcoaemeaa", sum := "c3b885b5dabd44966a167ec4b99533e3f1503b15bd6bee9226969a599897512e", func := "rivulet/rivuletlaw16.RankUnder", spec := "rankUnder", unfollowed := true, recurses := true, apart := false, narrowed := true }
def RankUnderUptoSaid : Prop := rankUnderUptoRow.holds Try.pinned (OpenSpec.upto rankUnderSpec)

end Rows
end Go.Proofs.Ytagnpmmcoaemeaa
