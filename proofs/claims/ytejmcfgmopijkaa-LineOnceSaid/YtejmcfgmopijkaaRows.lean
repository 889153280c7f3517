/-
  No cell of these rows narrows 'for every input' (looked for: loops, veiled, ifaces, maps, wideKeys, modest, calm, conditions, laid).
  DERIVED. THE GIVEN ROWS OF THIS SEAT. 15 by the template 'for every input the law returns true; each argument reads behind the call as it read before'; 0 by the template 'total and deterministic' (their statements: YtejmcfgmopijkaaTotals.lean).
  GIVEN WITH THE SEED: the statements are not yours to turn. If you find one false, say at which input.
  Laid BY PROGRAM, IN A SANDBOX (cutbox-rows.mjs): the forced cells as the released guide's own fill.sh prints them over the translation 75b770fc030455e4… (all of the seat's roots in one cut). By AI agents, Wed Nov 11 2026. No macro, syntax, notation, axiom, sorry.
-/
import Derived.Test.YtejmcfgmopijkaaChecked
import GoSem.Claim
import GoSem.ClaimJoined
import GoSem.ClaimMapViews
import Derived.JoinedTies
import Derived.KernelRfl
namespace Go.Proofs.Ytejmcfgmopijkaa
/- THE CELL 'sum', in the pinned program and in every row, IS THE sha256 OF THE DUMP (.gsa) THAT YtejmcfgmopijkaaProg.lean LOADS. Nothing in Lean hashes anything: it is a label: what it is worth is what the hold of that sum in a sandbox is worth. -/
noncomputable def Try.pinned : Pinned := { name := "ytejmcfgmopijkaa", sum := "75b770fc030455e499879119a33dc57f4d0a031742565854c774c8aae0dbc8a0", checked := Try.checked }
namespace Rows
def none {H : Type} : Left H := { results := [], args := [] }

/-- 'rivuletlaw13.ReceiverDoes': WHATEVER THE INPUT: true; the input reads as it did. -/
def receiverDoesSpec : ChangeSpec := { name := "receiverDoes", fn := fun _ => fun
  | [d1, d2] => { results := [.lit (.bool true)], args := [d1, d2] }
  | _ => none }
def receiverDoesRow : OpenClaim := { program := "ytejmcfgmopijkaa", sum := "75b770fc030455e499879119a33dc57f4d0a031742565854c774c8aae0dbc8a0", func := "rivulet/rivuletlaw13.ReceiverDoes", spec := "receiverDoes", apart := false }
def ReceiverDoesSaid : Prop := receiverDoesRow.holds Try.pinned (OpenSpec.ofChange receiverDoesSpec)

/-- ITS FALSE NEIGHBOUR: 'it returns false'. Refute it at one input. -/
def receiverDoesWrong : ChangeSpec := { name := "receiverDoes", fn := fun _ => fun
  | [d1, d2] => { results := [.lit (.bool false)], args := [d1, d2] }
  | _ => none }
def ReceiverDoesWrongFalsely : Prop := receiverDoesRow.holds Try.pinned (OpenSpec.ofChange receiverDoesWrong)

/-- 'rivuletlaw13.ReceiverOnce': WHATEVER THE INPUT: true; the input reads as it did. -/
def receiverOnceSpec : ChangeSpec := { name := "receiverOnce", fn := fun _ => fun
  | [d] => { results := [.lit (.bool true)], args := [d] }
  | _ => none }
def receiverOnceRow : OpenClaim := { program := "ytejmcfgmopijkaa", sum := "75b770fc030455e499879119a33dc57f4d0a031742565854c774c8aae0dbc8a0", func := "rivulet/rivuletlaw13.ReceiverOnce", spec := "receiverOnce", apart := false }
def ReceiverOnceSaid : Prop := receiverOnceRow.holds Try.pinned (OpenSpec.ofChange receiverOnceSpec)

/-- ITS FALSE NEIGHBOUR: 'it returns false'. Refute it at one input. -/
def receiverOnceWrong : ChangeSpec := { name := "receiverOnce", fn := fun _ => fun
  | [d] => { results := [.lit (.bool false)], args := [d] }
  | _ => none }
def ReceiverOnceWrongFalsely : Prop := receiverOnceRow.holds Try.pinned (OpenSpec.ofChange receiverOnceWrong)

/-- 'rivuletlaw13.ReceiverNews': WHATEVER THE INPUT: true; the input reads as it did. -/
def receiverNewsSpec : ChangeSpec := { name := "receiverNews", fn := fun _ => fun
  | [d] => { results := [.lit (.bool true)], args := [d] }
  | _ => none }
def receiverNewsRow : OpenClaim := { program := "ytejmcfgmopijkaa", sum := "75b770fc030455e499879119a33dc57f4d0a031742565854c774c8aae0dbc8a0", func := "rivulet/rivuletlaw13.ReceiverNews", spec := "receiverNews", apart := false }
def ReceiverNewsSaid : Prop := receiverNewsRow.holds Try.pinned (OpenSpec.ofChange receiverNewsSpec)

/-- ITS FALSE NEIGHBOUR: 'it returns false'. Refute it at one input. -/
def receiverNewsWrong : ChangeSpec := { name := "receiverNews", fn := fun _ => fun
  | [d] => { results := [.lit (.bool false)], args := [d] }
  | _ => none }
def ReceiverNewsWrongFalsely : Prop := receiverNewsRow.holds Try.pinned (OpenSpec.ofChange receiverNewsWrong)

/-- 'rivuletlaw13.ReceiverRuns': WHATEVER THE INPUT: true; the input reads as it did. -/
def receiverRunsSpec : ChangeSpec := { name := "receiverRuns", fn := fun _ => fun
  | [d1, d2] => { results := [.lit (.bool true)], args := [d1, d2] }
  | _ => none }
def receiverRunsRow : OpenClaim := { program := "ytejmcfgmopijkaa", sum := "75b770fc030455e499879119a33dc57f4d0a031742565854c774c8aae0dbc8a0", func := "rivulet/rivuletlaw13.ReceiverRuns", spec := "receiverRuns", apart := false }
def ReceiverRunsSaid : Prop := receiverRunsRow.holds Try.pinned (OpenSpec.ofChange receiverRunsSpec)

/-- ITS FALSE NEIGHBOUR: 'it returns false'. Refute it at one input. -/
def receiverRunsWrong : ChangeSpec := { name := "receiverRuns", fn := fun _ => fun
  | [d1, d2] => { results := [.lit (.bool false)], args := [d1, d2] }
  | _ => none }
def ReceiverRunsWrongFalsely : Prop := receiverRunsRow.holds Try.pinned (OpenSpec.ofChange receiverRunsWrong)

/-- 'rivuletlaw12.SenderDoes': WHATEVER THE INPUT: true; the input reads as it did. -/
def senderDoesSpec : ChangeSpec := { name := "senderDoes", fn := fun _ => fun
  | [d1, d2, d3] => { results := [.lit (.bool true)], args := [d1, d2, d3] }
  | _ => none }
def senderDoesRow : OpenClaim := { program := "ytejmcfgmopijkaa", sum := "75b770fc030455e499879119a33dc57f4d0a031742565854c774c8aae0dbc8a0", func := "rivulet/rivuletlaw12.SenderDoes", spec := "senderDoes", unfollowed := true, recurses := true, apart := false }
def SenderDoesSaid : Prop := senderDoesRow.holds Try.pinned (OpenSpec.ofChange senderDoesSpec)

/-- ITS FALSE NEIGHBOUR: 'it returns false'. Refute it at one input. -/
def senderDoesWrong : ChangeSpec := { name := "senderDoes", fn := fun _ => fun
  | [d1, d2, d3] => { results := [.lit (.bool false)], args := [d1, d2, d3] }
  | _ => none }
def SenderDoesWrongFalsely : Prop := senderDoesRow.holds Try.pinned (OpenSpec.ofChange senderDoesWrong)

/-- 'rivuletlaw12.SenderNews': WHATEVER THE INPUT: true; the input reads as it did. -/
def senderNewsSpec : ChangeSpec := { name := "senderNews", fn := fun _ => fun
  | [d1, d2, d3] => { results := [.lit (.bool true)], args := [d1, d2, d3] }
  | _ => none }
def senderNewsRow : OpenClaim := { program := "ytejmcfgmopijkaa", sum := "75b770fc030455e499879119a33dc57f4d0a031742565854c774c8aae0dbc8a0", func := "rivulet/rivuletlaw12.SenderNews", spec := "senderNews", unfollowed := true, recurses := true, apart := false }
def SenderNewsSaid : Prop := senderNewsRow.holds Try.pinned (OpenSpec.ofChange senderNewsSpec)

/-- ITS FALSE NEIGHBOUR: 'it returns false'. Refute it at one input. -/
def senderNewsWrong : ChangeSpec := { name := "senderNews", fn := fun _ => fun
  | [d1, d2, d3] => { results := [.lit (.bool false)], args := [d1, d2, d3] }
  | _ => none }
def SenderNewsWrongFalsely : Prop := senderNewsRow.holds Try.pinned (OpenSpec.ofChange senderNewsWrong)

/-- 'rivuletlaw12.SenderBounds': WHATEVER THE INPUT: true; the input reads as it did. -/
def senderBoundsSpec : ChangeSpec := { name := "senderBounds", fn := fun _ => fun
  | [d1, d2] => { results := [.lit (.bool true)], args := [d1, d2] }
  | _ => none }
def senderBoundsRow : OpenClaim := { program := "ytejmcfgmopijkaa", sum := "75b770fc030455e499879119a33dc57f4d0a031742565854c774c8aae0dbc8a0", func := "rivulet/rivuletlaw12.SenderBounds", spec := "senderBounds", unfollowed := true, recurses := true, apart := false }
def SenderBoundsSaid : Prop := senderBoundsRow.holds Try.pinned (OpenSpec.ofChange senderBoundsSpec)

/-- ITS FALSE NEIGHBOUR: 'it returns false'. Refute it at one input. -/
def senderBoundsWrong : ChangeSpec := { name := "senderBounds", fn := fun _ => fun
  | [d1, d2] => { results := [.lit (.bool false)], args := [d1, d2] }
  | _ => none }
def SenderBoundsWrongFalsely : Prop := senderBoundsRow.holds Try.pinned (OpenSpec.ofChange senderBoundsWrong)

/-- 'rivuletlaw12.SenderAgain': WHATEVER THE INPUT: true; the input reads as it did. -/
def senderAgainSpec : ChangeSpec := { name := "senderAgain", fn := fun _ => fun
  | [d1, d2, d3] => { results := [.lit (.bool true)], args := [d1, d2, d3] }
  | _ => none }
def senderAgainRow : OpenClaim := { program := "ytejmcfgmopijkaa", sum := "75b770fc030455e499879119a33dc57f4d0a031742565854c774c8aae0dbc8a0", func := "rivulet/rivuletlaw12.SenderAgain", spec := "senderAgain", unfollowed := true, recurses := true, apart := false }
def SenderAgainSaid : Prop := senderAgainRow.holds Try.pinned (OpenSpec.ofChange senderAgainSpec)

/-- ITS FALSE NEIGHBOUR: 'it returns false'. Refute it at one input. -/
def senderAgainWrong : ChangeSpec := { name := "senderAgain", fn := fun _ => fun
  | [d1, d2, d3] => { results := [.lit (.bool false)], args := [d1, d2, d3] }
  | _ => none }
def SenderAgainWrongFalsely : Prop := senderAgainRow.holds Try.pinned (OpenSpec.ofChange senderAgainWrong)

/-- 'rivuletlaw12.SenderOrder': WHATEVER THE INPUT: true; the input reads as it did. -/
def senderOrderSpec : ChangeSpec := { name := "senderOrder", fn := fun _ => fun
  | [d1, d2] => { results := [.lit (.bool true)], args := [d1, d2] }
  | _ => none }
def senderOrderRow : OpenClaim := { program := "ytejmcfgmopijkaa", sum := "75b770fc030455e499879119a33dc57f4d0a031742565854c774c8aae0dbc8a0", func := "rivulet/rivuletlaw12.SenderOrder", spec := "senderOrder", unfollowed := true, recurses := true, apart := false }
def SenderOrderSaid : Prop := senderOrderRow.holds Try.pinned (OpenSpec.ofChange senderOrderSpec)

/-- ITS FALSE NEIGHBOUR: 'it returns false'. Refute it at one input. -/
def senderOrderWrong : ChangeSpec := { name := "senderOrder", fn := fun _ => fun
  | [d1, d2] => { results := [.lit (.bool false)], args := [d1, d2] }
  | _ => none }
def SenderOrderWrongFalsely : Prop := senderOrderRow.holds Try.pinned (OpenSpec.ofChange senderOrderWrong)

/-- 'rivuletlaw12.SenderCredit': WHATEVER THE INPUT: true; the input reads as it did. -/
def senderCreditSpec : ChangeSpec := { name := "senderCredit", fn := fun _ => fun
  | [d1, d2, d3] => { results := [.lit (.bool true)], args := [d1, d2, d3] }
  | _ => none }
def senderCreditRow : OpenClaim := { program := "ytejmcfgmopijkaa", sum := "75b770fc030455e499879119a33dc57f4d0a031742565854c774c8aae0dbc8a0", func := "rivulet/rivuletlaw12.SenderCredit", spec := "senderCredit", unfollowed := true, recurses := true, apart := false }
def SenderCreditSaid : Prop := senderCreditRow.holds Try.pinned (OpenSpec.ofChange senderCreditSpec)

/-- ITS FALSE NEIGHBOUR: 'it returns false'. Refute it at one input. -/
def senderCreditWrong : ChangeSpec := { name := "senderCredit", fn := fun _ => fun
  | [d1, d2, d3] => { results := [.lit (.bool false)], args := [d1, d2, d3] }
  | _ => none }
def SenderCreditWrongFalsely : Prop := senderCreditRow.holds Try.pinned (OpenSpec.ofChange senderCreditWrong)

/-- 'rivuletlaw14.LineOnce': WHATEVER THE INPUT: true; the input reads as it did. -/
def lineOnceSpec : ChangeSpec := { name := "lineOnce", fn := fun _ => fun
  | [d1, d2] => { results := [.lit (.bool true)], args := [d1, d2] }
  | _ => none }
def lineOnceRow : OpenClaim := { program := "ytejmcfgmopijkaa", sum := "75b770fc030455e499879119a33dc57f4d0a031742565854c774c8aae0dbc8a0", func := "rivulet/rivuletlaw14.LineOnce", spec := "lineOnce", unfollowed := true, recurses := true, apart := false }
def LineOnceSaid : Prop := lineOnceRow.holds Try.pinned (OpenSpec.ofChange lineOnceSpec)

/-- ITS FALSE NEIGHBOUR: 'it returns false'. Refute it at one input. -/
def lineOnceWrong : ChangeSpec := { name := "lineOnce", fn := fun _ => fun
  | [d1, d2] => { results := [.lit (.bool false)], args := [d1, d2] }
  | _ => none }
def LineOnceWrongFalsely : Prop := lineOnceRow.holds Try.pinned (OpenSpec.ofChange lineOnceWrong)

/-- 'rivuletlaw14.LineServes': WHATEVER THE INPUT: true; the input reads as it did. -/
def lineServesSpec : ChangeSpec := { name := "lineServes", fn := fun _ => fun
  | [d1, d2] => { results := [.lit (.bool true)], args := [d1, d2] }
  | _ => none }
def lineServesRow : OpenClaim := { program := "ytejmcfgmopijkaa", sum := "75b770fc030455e499879119a33dc57f4d0a031742565854c774c8aae0dbc8a0", func := "rivulet/rivuletlaw14.LineServes", spec := "lineServes", unfollowed := true, recurses := true, apart := false }
def LineServesSaid : Prop := lineServesRow.holds Try.pinned (OpenSpec.ofChange lineServesSpec)

/-- ITS FALSE NEIGHBOUR: 'it returns false'. Refute it at one input. -/
def lineServesWrong : ChangeSpec := { name := "lineServes", fn := fun _ => fun
  | [d1, d2] => { results := [.lit (.bool false)], args := [d1, d2] }
  | _ => none }
def LineServesWrongFalsely : Prop := lineServesRow.holds Try.pinned (OpenSpec.ofChange lineServesWrong)

/-- 'rivuletlaw14.LineNews': WHATEVER THE INPUT: true; the input reads as it did. -/
def lineNewsSpec : ChangeSpec := { name := "lineNews", fn := fun _ => fun
  | [d1, d2, d3] => { results := [.lit (.bool true)], args := [d1, d2, d3] }
  | _ => none }
def lineNewsRow : OpenClaim := { program := "ytejmcfgmopijkaa", sum := "75b770fc030455e499879119a33dc57f4d0a031742565854c774c8aae0dbc8a0", func := "rivulet/rivuletlaw14.LineNews", spec := "lineNews", unfollowed := true, recurses := true, apart := false }
def LineNewsSaid : Prop := lineNewsRow.holds Try.pinned (OpenSpec.ofChange lineNewsSpec)

/-- ITS FALSE NEIGHBOUR: 'it returns false'. Refute it at one input. -/
def lineNewsWrong : ChangeSpec := { name := "lineNews", fn := fun _ => fun
  | [d1, d2, d3] => { results := [.lit (.bool false)], args := [d1, d2, d3] }
  | _ => none }
def LineNewsWrongFalsely : Prop := lineNewsRow.holds Try.pinned (OpenSpec.ofChange lineNewsWrong)

/-- 'rivuletlaw14.LineStraight': WHATEVER THE INPUT: true; the input reads as it did. -/
def lineStraightSpec : ChangeSpec := { name := "lineStraight", fn := fun _ => fun
  | [d1, d2] => { results := [.lit (.bool true)], args := [d1, d2] }
  | _ => none }
def lineStraightRow : OpenClaim := { program := "ytejmcfgmopijkaa", sum := "75b770fc030455e499879119a33dc57f4d0a031742565854c774c8aae0dbc8a0", func := "rivulet/rivuletlaw14.LineStraight", spec := "lineStraight", unfollowed := true, recurses := true, apart := false }
def LineStraightSaid : Prop := lineStraightRow.holds Try.pinned (OpenSpec.ofChange lineStraightSpec)

/-- ITS FALSE NEIGHBOUR: 'it returns false'. Refute it at one input. -/
def lineStraightWrong : ChangeSpec := { name := "lineStraight", fn := fun _ => fun
  | [d1, d2] => { results := [.lit (.bool false)], args := [d1, d2] }
  | _ => none }
def LineStraightWrongFalsely : Prop := lineStraightRow.holds Try.pinned (OpenSpec.ofChange lineStraightWrong)

/-- 'rivuletlaw14.LineWays': WHATEVER THE INPUT: true; the input reads as it did. -/
def lineWaysSpec : ChangeSpec := { name := "lineWays", fn := fun _ => fun
  | [d1, d2] => { results := [.lit (.bool true)], args := [d1, d2] }
  | _ => none }
def lineWaysRow : OpenClaim := { program := "ytejmcfgmopijkaa", sum := "75b770fc030455e499879119a33dc57f4d0a031742565854c774c8aae0dbc8a0", func := "rivulet/rivuletlaw14.LineWays", spec := "lineWays", unfollowed := true, recurses := true, apart := false }
def LineWaysSaid : Prop := lineWaysRow.holds Try.pinned (OpenSpec.ofChange lineWaysSpec)

/-- ITS FALSE NEIGHBOUR: 'it returns false'. Refute it at one input. -/
def lineWaysWrong : ChangeSpec := { name := "lineWays", fn := fun _ => fun
  | [d1, d2] => { results := [.lit (.bool false)], args := [d1, d2] }
  | _ => none }
def LineWaysWrongFalsely : Prop := lineWaysRow.holds Try.pinned (OpenSpec.ofChange lineWaysWrong)

/- THE SECOND FORM. 'bulk': how many values and letters a reading holds, each counted each time it is reached (what is shared counts as often as it is met; a slice's spare places count too). A statement '..UptoSaid' is the law's where the arguments, and the package variables that the reading takes, are together of bulk at most 1048576: NARROWER than '..Said'. Prove '..Said' where nothing that the law and all that it calls make is longer than what came in: it says more and counts as full. Else prove '..UptoSaid'. A law counts once. -/
mutual
def uptoBulk {H : Type} : DataW H → Nat
  | .lit (.string bytes) => bytes.length + 1
  | .lit _ => 1
  | .nil => 1
  | .ptr d => uptoBulk d + 1
  | .slice elems spare => uptoBulkAll elems + uptoBulkAll spare + 1
  | .agg parts => uptoBulkAll parts + 1
  | .iface _ d => uptoBulk d + 1
  | .map entries => uptoBulkEntries entries + 1
  | .held _ => 1
def uptoBulkAll {H : Type} : List (DataW H) → Nat
  | [] => 0
  | d :: r => uptoBulk d + uptoBulkAll r
def uptoBulkEntries {H : Type} : List (Lit × DataW H) → Nat
  | [] => 0
  | x :: r => uptoBulkEntry x + uptoBulkEntries r
def uptoBulkEntry {H : Type} : Lit × DataW H → Nat
  | (.string bytes, d) => bytes.length + uptoBulk d + 1
  | (_, d) => uptoBulk d + 1
 end
def uptoSmall : (H : Type) → List (DataW H) → Bool := fun _ ds => decide (uptoBulkAll ds ≤ 1048576)
def OpenSpec.upto (s : _root_.Go.ChangeSpec) : _root_.Go.OpenSpec := { _root_.Go.OpenSpec.ofChange s with cond := some uptoSmall }

/-- 'rivuletlaw13.ReceiverDoes', WHERE WHAT IT READS IS OF BULK AT MOST 1048576: true; the input reads as it did. -/
def receiverDoesUptoRow : OpenClaim := { program := "ytejmcfgmopijkaa", sum := "75b770fc030455e499879119a33dc57f4d0a031742565854c774c8aae0dbc8a0", func := "rivulet/rivuletlaw13.ReceiverDoes", spec := "receiverDoes", apart := false, narrowed := true }
def ReceiverDoesUptoSaid : Prop := receiverDoesUptoRow.holds Try.pinned (OpenSpec.upto receiverDoesSpec)

/-- 'rivuletlaw13.ReceiverOnce', WHERE WHAT IT READS IS OF BULK AT MOST 1048576: true; the input reads as it did. -/
def receiverOnceUptoRow : OpenClaim := { program := "ytejmcfgmopijkaa", sum := "75b770fc030455e499879119a33dc57f4d0a031742565854c774c8aae0dbc8a0", func := "rivulet/rivuletlaw13.ReceiverOnce", spec := "receiverOnce", apart := false, narrowed := true }
def ReceiverOnceUptoSaid : Prop := receiverOnceUptoRow.holds Try.pinned (OpenSpec.upto receiverOnceSpec)

/-- 'rivuletlaw13.ReceiverNews', WHERE WHAT IT READS IS OF BULK AT MOST 1048576: true; the input reads as it did. -/
def receiverNewsUptoRow : OpenClaim := { program := "ytejmcfgmopijkaa", sum := "75b770fc030455e499879119a33dc57f4d0a031742565854c774c8aae0dbc8a0", func := "rivulet/rivuletlaw13.ReceiverNews", spec := "receiverNews", apart := false, narrowed := true }
def ReceiverNewsUptoSaid : Prop := receiverNewsUptoRow.holds Try.pinned (OpenSpec.upto receiverNewsSpec)

/-- 'rivuletlaw13.ReceiverRuns', WHERE WHAT IT READS IS OF BULK AT MOST 1048576: true; the input reads as it did. -/
def receiverRunsUptoRow : OpenClaim := { program := "ytejmcfgmopijkaa", sum := "75b770fc030455e499879119a33dc57f4d0a031742565854c774c8aae0dbc8a0", func := "rivulet/rivuletlaw13.ReceiverRuns", spec := "receiverRuns", apart := false, narrowed := true }
def ReceiverRunsUptoSaid : Prop := receiverRunsUptoRow.holds Try.pinned (OpenSpec.upto receiverRunsSpec)

/-- 'rivuletlaw12.SenderDoes', WHERE WHAT IT READS IS OF BULK AT MOST 1048576: true; the input reads as it did. -/
def senderDoesUptoRow : OpenClaim := { program := "ytejmcfgmopijkaa", sum := "75b770fc030455e499879119a33dc57f4d0a031742565854c774c8aae0dbc8a0", func := "rivulet/rivuletlaw12.SenderDoes", spec := "senderDoes", unfollowed := true, recurses := true, apart := false, narrowed := true }
def SenderDoesUptoSaid : Prop := senderDoesUptoRow.holds Try.pinned (OpenSpec.upto senderDoesSpec)

/-- 'rivuletlaw12.SenderNews', WHERE WHAT IT READS IS OF BULK AT MOST 1048576: true; the input reads as it did. -/
def senderNewsUptoRow : OpenClaim := { program := "ytejmcfgmopijkaa", sum := "75b770fc030455e499879119a33dc57f4d0a031742565854c774c8aae0dbc8a0", func := "rivulet/rivuletlaw12.SenderNews", spec := "senderNews", unfollowed := true, recurses := true, apart := false, narrowed := true }
def SenderNewsUptoSaid : Prop := senderNewsUptoRow.holds Try.pinned (OpenSpec.upto senderNewsSpec)

/-- 'rivuletlaw12.SenderBounds', WHERE WHAT IT READS IS OF BULK AT MOST 1048576: true; the input reads as it did. -/
def senderBoundsUptoRow : OpenClaim := { program := "ytejmcfgmopijkaa", sum := "75b770fc030455e499879119a33dc57f4d0a031742565854c774c8aae0dbc8a0", func := "rivulet/rivuletlaw12.SenderBounds", spec := "senderBounds", unfollowed := true, recurses := true, apart := false, narrowed := true }
def SenderBoundsUptoSaid : Prop := senderBoundsUptoRow.holds Try.pinned (OpenSpec.upto senderBoundsSpec)

/-- 'rivuletlaw12.SenderAgain', WHERE WHAT IT READS IS OF BULK AT MOST 1048576: true; the input reads as it did. -/
def senderAgainUptoRow : OpenClaim := { program := "ytejmcfgmopijkaa", sum := "75b770fc030455e499879119a33dc57f4d0a031742565854c774c8aae0dbc8a0", func := "rivulet/rivuletlaw12.SenderAgain", spec := "senderAgain", unfollowed := true, recurses := true, apart := false, narrowed := true }
def SenderAgainUptoSaid : Prop := senderAgainUptoRow.holds Try.pinned (OpenSpec.upto senderAgainSpec)

/-- 'rivuletlaw12.SenderOrder', WHERE WHAT IT READS IS OF BULK AT MOST 1048576: true; the input reads as it did. -/
def senderOrderUptoRow : OpenClaim := { program := "ytejmcfgmopijkaa", sum := "75b770fc030455e499879119a33dc57f4d0a031742565854c774c8aae0dbc8a0", func := "rivulet/rivuletlaw12.SenderOrder", spec := "senderOrder", unfollowed := true, recurses := true, apart := false, narrowed := true }
def SenderOrderUptoSaid : Prop := senderOrderUptoRow.holds Try.pinned (OpenSpec.upto senderOrderSpec)

/-- 'rivuletlaw12.SenderCredit', WHERE WHAT IT READS IS OF BULK AT MOST 1048576: true; the input reads as it did. -/
def senderCreditUptoRow : OpenClaim := { program := "ytejmcfgmopijkaa", sum := "75b770fc030455e499879119a33dc57f4d0a031742565854c774c8aae0dbc8a0", func := "rivulet/rivuletlaw12.SenderCredit", spec := "senderCredit", unfollowed := true, recurses := true, apart := false, narrowed := true }
def SenderCreditUptoSaid : Prop := senderCreditUptoRow.holds Try.pinned (OpenSpec.upto senderCreditSpec)

/-- 'rivuletlaw14.LineOnce', WHERE WHAT IT READS IS OF BULK AT MOST 1048576: true; the input reads as it did. -/
def lineOnceUptoRow : OpenClaim := { program := "ytejmcfgmopijkaa", sum := "75b770fc030455e499879119a33dc57f4d0a031742565854c774c8aae0dbc8a0", func := "rivulet/rivuletlaw14.LineOnce", spec := "lineOnce", unfollowed := true, recurses := true, apart := false, narrowed := true }
def LineOnceUptoSaid : Prop := lineOnceUptoRow.holds Try.pinned (OpenSpec.upto lineOnceSpec)

/-- 'rivuletlaw14.LineServes', WHERE WHAT IT READS IS OF BULK AT MOST 1048576: true; the input reads as it did. -/
def lineServesUptoRow : OpenClaim := { program := "ytejmcfgmopijkaa", sum := "75b770fc030455e499879119a33dc57f4d0a031742565854c774c8aae0dbc8a0", func := "rivulet/rivuletlaw14.LineServes", spec := "lineServes", unfollowed := true, recurses := true, apart := false, narrowed := true }
def LineServesUptoSaid : Prop := lineServesUptoRow.holds Try.pinned (OpenSpec.upto lineServesSpec)

/-- 'rivuletlaw14.LineNews', WHERE WHAT IT READS IS OF BULK AT MOST 1048576: true; the input reads as it did. -/
def lineNewsUptoRow : OpenClaim := { program := "ytejmcfgmopijkaa", sum := "75b770fc030455e499879119a33dc57f4d0a031742565854c774c8aae0dbc8a0", func := "rivulet/rivuletlaw14.LineNews", spec := "lineNews", unfollowed := true, recurses := true, apart := false, narrowed := true }
def LineNewsUptoSaid : Prop := lineNewsUptoRow.holds Try.pinned (OpenSpec.upto lineNewsSpec)

/-- 'rivuletlaw14.LineStraight', WHERE WHAT IT READS IS OF BULK AT MOST 1048576: true; the input reads as it did. -/
def lineStraightUptoRow : OpenClaim := { program := "ytejmcfgmopijkaa", sum := "75b770fc030455e499879119a33dc57f4d0a031742565854c774c8aae0dbc8a0", func := "rivulet/rivuletlaw14.LineStraight", spec := "lineStraight", unfollowed := true, recurses := true, apart := false, narrowed := true }
def LineStraightUptoSaid : Prop := lineStraightUptoRow.holds Try.pinned (OpenSpec.upto lineStraightSpec)

/-- 'rivuletlaw14.LineWays', WHERE WHAT IT READS IS OF BULK AT MOST 1048576: true; the input reads as it did. -/
def lineWaysUptoRow : OpenClaim := { program := "ytejmcfgmopijkaa", sum := "75b770fc030455e499879119a33dc57f4d0a031742565854c774c8aae0dbc8a0", func := "rivulet/rivuletlaw14.LineWays", spec := "lineWays", unfollowed := true, recurses := true, apart := false, narrowed := true }
def LineWaysUptoSaid : Prop := lineWaysUptoRow.holds Try.pinned (OpenSpec.upto lineWaysSpec)

end Rows
end Go.Proofs.Ytejmcfgmopijkaa
