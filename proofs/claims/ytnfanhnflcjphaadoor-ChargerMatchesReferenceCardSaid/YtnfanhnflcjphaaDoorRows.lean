/-
  NARROWER THAN 'FOR EVERY INPUT', by the rows' own cells (each row's printed sentence says how): ChargerMatchesReference: laid · ChargerOrder: laid · ChargerLeases: laid · ChargerValid: laid · ChargerWelded: laid · ChargerSilence: laid · ChargerExchanged: laid.
  DERIVED. THE GIVEN ROWS OF THIS SEAT. 7 by the template 'for every input the law returns true; each argument reads behind the call as it read before'; 0 by the template 'total and deterministic' (their statements: YtnfanhnflcjphaaDoorTotals.lean).
  GIVEN WITH THE SEED: the statements are not yours to turn. If you find one false, say at which input.
  Laid BY PROGRAM, IN A SANDBOX (cutbox-rows.mjs): the forced cells as the released guide's own fill.sh prints them over the translation 4aed513063080c19… (all of the seat's roots in one cut). By AI agents, Wed Nov 11 2026. No macro, syntax, notation, axiom, sorry.
-/
import Derived.Test.YtnfanhnflcjphaaDoorChecked
import GoSem.Claim
import GoSem.ClaimJoined
import GoSem.ClaimMapViews
import Derived.JoinedTies
import Derived.KernelRfl
namespace Go.Proofs.YtnfanhnflcjphaaDoor
/- THE CELL 'sum', in the pinned program and in every row, IS THE sha256 OF THE DUMP (.gsa) THAT YtnfanhnflcjphaaDoorProg.lean LOADS. Nothing in Lean hashes anything: it is a label: what it is worth is what the hold of that sum in a sandbox is worth. -/
noncomputable def Tryd.pinned : Pinned := { name := "ytnfanhnflcjphaadoor", sum := "4aed513063080c192939e45574b8f7ad5c8c41f4d7c2d295bca8fb4e7ee5fcf4", checked := Tryd.checked }
namespace Rows
def none {H : Type} : Left H := { results := [], args := [] }

/- WHAT THE LISTED PACKAGE-LEVEL VARIABLES READ AS WHEN THE CALL BEGINS. Each datum BY PROGRAM (the guide's laid-datum.mjs) off the statement by which the dump's own 'gosem.cut.vars' lays the variable. In a bare row this is a premise. The card (YtnfanhnflcjphaaDoorCards.lean) ties it to the program's text. -/
def laid_chargepark_charger_after {H : Type} : DataW H := .agg [.agg [.lit (.int .i64 0), .lit (.int .i64 0), .lit (.int .i64 0), .lit (.int .i64 0), .lit (.int .i64 0), .lit (.int .i64 0)], .agg [.lit (.int .i64 1), .lit (.int .i64 (-1)), .lit (.int .i64 (-1)), .lit (.int .i64 (-1)), .lit (.int .i64 (-1)), .lit (.int .i64 (-1))], .agg [.lit (.int .i64 (-1)), .lit (.int .i64 0), .lit (.int .i64 (-1)), .lit (.int .i64 (-1)), .lit (.int .i64 (-1)), .lit (.int .i64 0)], .agg [.lit (.int .i64 (-1)), .lit (.int .i64 2), .lit (.int .i64 (-1)), .lit (.int .i64 (-1)), .lit (.int .i64 (-1)), .lit (.int .i64 (-1))], .agg [.lit (.int .i64 (-1)), .lit (.int .i64 (-1)), .lit (.int .i64 3), .lit (.int .i64 (-1)), .lit (.int .i64 (-1)), .lit (.int .i64 (-1))], .agg [.lit (.int .i64 (-1)), .lit (.int .i64 (-1)), .lit (.int .i64 (-1)), .lit (.int .i64 4), .lit (.int .i64 (-1)), .lit (.int .i64 (-1))], .agg [.lit (.int .i64 (-1)), .lit (.int .i64 (-1)), .lit (.int .i64 (-1)), .lit (.int .i64 (-1)), .lit (.int .i64 1), .lit (.int .i64 (-1))], .agg [.lit (.int .i64 0), .lit (.int .i64 1), .lit (.int .i64 2), .lit (.int .i64 3), .lit (.int .i64 4), .lit (.int .i64 5)], .agg [.lit (.int .i64 0), .lit (.int .i64 1), .lit (.int .i64 2), .lit (.int .i64 3), .lit (.int .i64 4), .lit (.int .i64 5)], .agg [.lit (.int .i64 0), .lit (.int .i64 1), .lit (.int .i64 1), .lit (.int .i64 1), .lit (.int .i64 1), .lit (.int .i64 1)]]

/-- 'chargeparklaw12.ChargerMatchesReference': WHATEVER THE INPUT: true; the input reads as it did. -/
def chargerMatchesReferenceSpec : ChangeSpec := { name := "chargerMatchesReference", fn := fun _ => fun
  | [d1, d2, d3] => { results := [.lit (.bool true)], args := [d1, d2, d3] }
  | _ => none }
def chargerMatchesReferenceRow : OpenClaim := { program := "ytnfanhnflcjphaadoor", sum := "4aed513063080c192939e45574b8f7ad5c8c41f4d7c2d295bca8fb4e7ee5fcf4", func := "chargepark/chargeparklaw12.ChargerMatchesReference", spec := "chargerMatchesReference", unfollowed := true, recurses := true, named := ["chargepark/charger.after"], apart := false, laid := [("chargepark/charger.after", laid_chargepark_charger_after)] }
def ChargerMatchesReferenceSaid : Prop := chargerMatchesReferenceRow.holds Tryd.pinned (OpenSpec.ofChange chargerMatchesReferenceSpec)

/-- ITS FALSE NEIGHBOUR: 'it returns false'. Refute it at one input. -/
def chargerMatchesReferenceWrong : ChangeSpec := { name := "chargerMatchesReference", fn := fun _ => fun
  | [d1, d2, d3] => { results := [.lit (.bool false)], args := [d1, d2, d3] }
  | _ => none }
def ChargerMatchesReferenceWrongFalsely : Prop := chargerMatchesReferenceRow.holds Tryd.pinned (OpenSpec.ofChange chargerMatchesReferenceWrong)

/-- 'chargeparklaw12.ChargerOrder': WHATEVER THE INPUT: true; the input reads as it did. -/
def chargerOrderSpec : ChangeSpec := { name := "chargerOrder", fn := fun _ => fun
  | [d1, d2] => { results := [.lit (.bool true)], args := [d1, d2] }
  | _ => none }
def chargerOrderRow : OpenClaim := { program := "ytnfanhnflcjphaadoor", sum := "4aed513063080c192939e45574b8f7ad5c8c41f4d7c2d295bca8fb4e7ee5fcf4", func := "chargepark/chargeparklaw12.ChargerOrder", spec := "chargerOrder", unfollowed := true, recurses := true, named := ["chargepark/charger.after"], apart := false, laid := [("chargepark/charger.after", laid_chargepark_charger_after)] }
def ChargerOrderSaid : Prop := chargerOrderRow.holds Tryd.pinned (OpenSpec.ofChange chargerOrderSpec)

/-- ITS FALSE NEIGHBOUR: 'it returns false'. Refute it at one input. -/
def chargerOrderWrong : ChangeSpec := { name := "chargerOrder", fn := fun _ => fun
  | [d1, d2] => { results := [.lit (.bool false)], args := [d1, d2] }
  | _ => none }
def ChargerOrderWrongFalsely : Prop := chargerOrderRow.holds Tryd.pinned (OpenSpec.ofChange chargerOrderWrong)

/-- 'chargeparklaw12.ChargerLeases': WHATEVER THE INPUT: true; the input reads as it did. -/
def chargerLeasesSpec : ChangeSpec := { name := "chargerLeases", fn := fun _ => fun
  | [d1, d2] => { results := [.lit (.bool true)], args := [d1, d2] }
  | _ => none }
def chargerLeasesRow : OpenClaim := { program := "ytnfanhnflcjphaadoor", sum := "4aed513063080c192939e45574b8f7ad5c8c41f4d7c2d295bca8fb4e7ee5fcf4", func := "chargepark/chargeparklaw12.ChargerLeases", spec := "chargerLeases", unfollowed := true, recurses := true, named := ["chargepark/charger.after"], apart := false, laid := [("chargepark/charger.after", laid_chargepark_charger_after)] }
def ChargerLeasesSaid : Prop := chargerLeasesRow.holds Tryd.pinned (OpenSpec.ofChange chargerLeasesSpec)

/-- ITS FALSE NEIGHBOUR: 'it returns false'. Refute it at one input. -/
def chargerLeasesWrong : ChangeSpec := { name := "chargerLeases", fn := fun _ => fun
  | [d1, d2] => { results := [.lit (.bool false)], args := [d1, d2] }
  | _ => none }
def ChargerLeasesWrongFalsely : Prop := chargerLeasesRow.holds Tryd.pinned (OpenSpec.ofChange chargerLeasesWrong)

/-- 'chargeparklaw12.ChargerValid': WHATEVER THE INPUT: true; the input reads as it did. -/
def chargerValidSpec : ChangeSpec := { name := "chargerValid", fn := fun _ => fun
  | [d1, d2, d3] => { results := [.lit (.bool true)], args := [d1, d2, d3] }
  | _ => none }
def chargerValidRow : OpenClaim := { program := "ytnfanhnflcjphaadoor", sum := "4aed513063080c192939e45574b8f7ad5c8c41f4d7c2d295bca8fb4e7ee5fcf4", func := "chargepark/chargeparklaw12.ChargerValid", spec := "chargerValid", unfollowed := true, recurses := true, named := ["chargepark/charger.after"], apart := false, laid := [("chargepark/charger.after", laid_chargepark_charger_after)] }
def ChargerValidSaid : Prop := chargerValidRow.holds Tryd.pinned (OpenSpec.ofChange chargerValidSpec)

/-- ITS FALSE NEIGHBOUR: 'it returns false'. Refute it at one input. -/
def chargerValidWrong : ChangeSpec := { name := "chargerValid", fn := fun _ => fun
  | [d1, d2, d3] => { results := [.lit (.bool false)], args := [d1, d2, d3] }
  | _ => none }
def ChargerValidWrongFalsely : Prop := chargerValidRow.holds Tryd.pinned (OpenSpec.ofChange chargerValidWrong)

/-- 'chargeparklaw12.ChargerWelded': WHATEVER THE INPUT: true; the input reads as it did. -/
def chargerWeldedSpec : ChangeSpec := { name := "chargerWelded", fn := fun _ => fun
  | [d1, d2, d3] => { results := [.lit (.bool true)], args := [d1, d2, d3] }
  | _ => none }
def chargerWeldedRow : OpenClaim := { program := "ytnfanhnflcjphaadoor", sum := "4aed513063080c192939e45574b8f7ad5c8c41f4d7c2d295bca8fb4e7ee5fcf4", func := "chargepark/chargeparklaw12.ChargerWelded", spec := "chargerWelded", unfollowed := true, recurses := true, named := ["chargepark/charger.after"], apart := false, laid := [("chargepark/charger.after", laid_chargepark_charger_after)] }
def ChargerWeldedSaid : Prop := chargerWeldedRow.holds Tryd.pinned (OpenSpec.ofChange chargerWeldedSpec)

/-- ITS FALSE NEIGHBOUR: 'it returns false'. Refute it at one input. -/
def chargerWeldedWrong : ChangeSpec := { name := "chargerWelded", fn := fun _ => fun
  | [d1, d2, d3] => { results := [.lit (.bool false)], args := [d1, d2, d3] }
  | _ => none }
def ChargerWeldedWrongFalsely : Prop := chargerWeldedRow.holds Tryd.pinned (OpenSpec.ofChange chargerWeldedWrong)

/-- 'chargeparklaw12.ChargerSilence': WHATEVER THE INPUT: true; the input reads as it did. -/
def chargerSilenceSpec : ChangeSpec := { name := "chargerSilence", fn := fun _ => fun
  | [d1, d2] => { results := [.lit (.bool true)], args := [d1, d2] }
  | _ => none }
def chargerSilenceRow : OpenClaim := { program := "ytnfanhnflcjphaadoor", sum := "4aed513063080c192939e45574b8f7ad5c8c41f4d7c2d295bca8fb4e7ee5fcf4", func := "chargepark/chargeparklaw12.ChargerSilence", spec := "chargerSilence", unfollowed := true, recurses := true, named := ["chargepark/charger.after"], apart := false, laid := [("chargepark/charger.after", laid_chargepark_charger_after)] }
def ChargerSilenceSaid : Prop := chargerSilenceRow.holds Tryd.pinned (OpenSpec.ofChange chargerSilenceSpec)

/-- ITS FALSE NEIGHBOUR: 'it returns false'. Refute it at one input. -/
def chargerSilenceWrong : ChangeSpec := { name := "chargerSilence", fn := fun _ => fun
  | [d1, d2] => { results := [.lit (.bool false)], args := [d1, d2] }
  | _ => none }
def ChargerSilenceWrongFalsely : Prop := chargerSilenceRow.holds Tryd.pinned (OpenSpec.ofChange chargerSilenceWrong)

/-- 'chargeparklaw12.ChargerExchanged': WHATEVER THE INPUT: true; the input reads as it did. -/
def chargerExchangedSpec : ChangeSpec := { name := "chargerExchanged", fn := fun _ => fun
  | [d1, d2, d3, d4] => { results := [.lit (.bool true)], args := [d1, d2, d3, d4] }
  | _ => none }
def chargerExchangedRow : OpenClaim := { program := "ytnfanhnflcjphaadoor", sum := "4aed513063080c192939e45574b8f7ad5c8c41f4d7c2d295bca8fb4e7ee5fcf4", func := "chargepark/chargeparklaw12.ChargerExchanged", spec := "chargerExchanged", unfollowed := true, recurses := true, named := ["chargepark/charger.after"], apart := false, laid := [("chargepark/charger.after", laid_chargepark_charger_after)] }
def ChargerExchangedSaid : Prop := chargerExchangedRow.holds Tryd.pinned (OpenSpec.ofChange chargerExchangedSpec)

/-- ITS FALSE NEIGHBOUR: 'it returns false'. Refute it at one input. -/
def chargerExchangedWrong : ChangeSpec := { name := "chargerExchanged", fn := fun _ => fun
  | [d1, d2, d3, d4] => { results := [.lit (.bool false)], args := [d1, d2, d3, d4] }
  | _ => none }
def ChargerExchangedWrongFalsely : Prop := chargerExchangedRow.holds Tryd.pinned (OpenSpec.ofChange chargerExchangedWrong)

/- THE SECOND FORM. 'bulk': how many values and letters a reading holds, each counted each time it is reached (what is shared counts as often as it is met; a slice's spare places count too). A statement '..UptoSaid' is the law's where the arguments, and the package variables that the reading takes, are together of bulk at most 1048576: NARROWER than '..Said'. Prove '..Said' where nothing that the law and all that it calls make is longer than what came in: it says more and counts as full. Else prove '..UptoSaid'. A law counts once. -/
mutual
def uptoBulk {H : Type} : DataW H → Nat
  | .lit (.string bytes) => bytes.length + 1
  | .lit _ => 1
  | .nil => 1
  | .ptr d => uptoBulk d + 1
  | .slice elems spare => uptoBulkAll elems + uptoBulkAll spare + 1
  | .agg parts => uptoBulkAll parts + 1
  | .iface _ d => uptoBulk d + 1
  | .map entries => uptoBulkEntries entries + 1
  | .held _ => 1
def uptoBulkAll {H : Type} : List (DataW H) → Nat
  | [] => 0
  | d :: r => uptoBulk d + uptoBulkAll r
def uptoBulkEntries {H : Type} : List (Lit × DataW H) → Nat
  | [] => 0
  | x :: r => uptoBulkEntry x + uptoBulkEntries r
def uptoBulkEntry {H : Type} : Lit × DataW H → Nat
  | (.string bytes, d) => bytes.length + uptoBulk d + 1
  | (_, d) => uptoBulk d + 1
 end
def uptoSmall : (H : Type) → List (DataW H) → Bool := fun _ ds => decide (uptoBulkAll ds ≤ 1048576)
def OpenSpec.upto (s : _root_.Go.ChangeSpec) : _root_.Go.OpenSpec := { _root_.Go.OpenSpec.ofChange s with cond := some uptoSmall }

/-- 'chargeparklaw12.ChargerMatchesReference', WHERE WHAT IT READS IS OF BULK AT MOST 1048576: true; the input reads as it did. -/
def chargerMatchesReferenceUptoRow : OpenClaim := { program := "ytnfanhnflcjphaadoor", sum := "4aed513063080c192939e45574b8f7ad5c8c41f4d7c2d295bca8fb4e7ee5fcf4", func := "chargepark/chargeparklaw12.ChargerMatchesReference", spec := "chargerMatchesReference", unfollowed := true, recurses := true, named := ["chargepark/charger.after"], apart := false, laid := [("chargepark/charger.after", laid_chargepark_charger_after)], narrowed := true }
def ChargerMatchesReferenceUptoSaid : Prop := chargerMatchesReferenceUptoRow.holds Tryd.pinned (OpenSpec.upto chargerMatchesReferenceSpec)

/-- 'chargeparklaw12.ChargerOrder', WHERE WHAT IT READS IS OF BULK AT MOST 1048576: true; the input reads as it did. -/
def chargerOrderUptoRow : OpenClaim := { program := "ytnfanhnflcjphaadoor", sum := "4aed513063080c192939e45574b8f7ad5c8c41f4d7c2d295bca8fb4e7ee5fcf4", func := "chargepark/chargeparklaw12.ChargerOrder", spec := "chargerOrder", unfollowed := true, recurses := true, named := ["chargepark/charger.after"], apart := false, laid := [("chargepark/charger.after", laid_chargepark_charger_after)], narrowed := true }
def ChargerOrderUptoSaid : Prop := chargerOrderUptoRow.holds Tryd.pinned (OpenSpec.upto chargerOrderSpec)

/-- 'chargeparklaw12.ChargerLeases', WHERE WHAT IT READS IS OF BULK AT MOST 1048576: true; the input reads as it did. -/
def chargerLeasesUptoRow : OpenClaim := { program := "ytnfanhnflcjphaadoor", sum := "4aed513063080c192939e45574b8f7ad5c8c41f4d7c2d295bca8fb4e7ee5fcf4", func := "chargepark/chargeparklaw12.ChargerLeases", spec := "chargerLeases", unfollowed := true, recurses := true, named := ["chargepark/charger.after"], apart := false, laid := [("chargepark/charger.after", laid_chargepark_charger_after)], narrowed := true }
def ChargerLeasesUptoSaid : Prop := chargerLeasesUptoRow.holds Tryd.pinned (OpenSpec.upto chargerLeasesSpec)

/-- 'chargeparklaw12.ChargerValid', WHERE WHAT IT READS IS OF BULK AT MOST 1048576: true; the input reads as it did. -/
def chargerValidUptoRow : OpenClaim := { program := "ytnfanhnflcjphaadoor", sum := "4aed513063080c192939e45574b8f7ad5c8c41f4d7c2d295bca8fb4e7ee5fcf4", func := "chargepark/chargeparklaw12.ChargerValid", spec := "chargerValid", unfollowed := true, recurses := true, named := ["chargepark/charger.after"], apart := false, laid := [("chargepark/charger.after", laid_chargepark_charger_after)], narrowed := true }
def ChargerValidUptoSaid : Prop := chargerValidUptoRow.holds Tryd.pinned (OpenSpec.upto chargerValidSpec)

/-- 'chargeparklaw12.ChargerWelded', WHERE WHAT IT READS IS OF BULK AT MOST 1048576: true; the input reads as it did. -/
def chargerWeldedUptoRow : OpenClaim := { program := "ytnfanhnflcjphaadoor", sum := "4aed513063080c192939e45574b8f7ad5c8c41f4d7c2d295bca8fb4e7ee5fcf4", func := "chargepark/chargeparklaw12.ChargerWelded", spec := "chargerWelded", unfollowed := true, recurses := true, named := ["chargepark/charger.after"], apart := false, laid := [("chargepark/charger.after", laid_chargepark_charger_after)], narrowed := true }
def ChargerWeldedUptoSaid : Prop := chargerWeldedUptoRow.holds Tryd.pinned (OpenSpec.upto chargerWeldedSpec)

/-- 'chargeparklaw12.ChargerSilence', WHERE WHAT IT READS IS OF BULK AT MOST 1048576: true; the input reads as it did. -/
def chargerSilenceUptoRow : OpenClaim := { program := "ytnfanhnflcjphaadoor", sum := "4aed513063080c192939e45574b8f7ad5c8c41f4d7c2d295bca8fb4e7ee5fcf4", func := "chargepark/chargeparklaw12.ChargerSilence", spec := "chargerSilence", unfollowed := true, recurses := true, named := ["chargepark/charger.after"], apart := false, laid := [("chargepark/charger.after", laid_chargepark_charger_after)], narrowed := true }
def ChargerSilenceUptoSaid : Prop := chargerSilenceUptoRow.holds Tryd.pinned (OpenSpec.upto chargerSilenceSpec)

/-- 'chargeparklaw12.ChargerExchanged', WHERE WHAT IT READS IS OF BULK AT MOST 1048576: true; the input reads as it did. -/
def chargerExchangedUptoRow : OpenClaim := { program := "ytnfanhnflcjphaadoor", sum := "4aed513063080c192939e45574b8f7ad5c8c41f4d7c2d295bca8fb4e7ee5fcf4", func := "chargepark/chargeparklaw12.ChargerExchanged", spec := "chargerExchanged", unfollowed := true, recurses := true, named := ["chargepark/charger.after"], apart := false, laid := [("chargepark/charger.after", laid_chargepark_charger_after)], narrowed := true }
def ChargerExchangedUptoSaid : Prop := chargerExchangedUptoRow.holds Tryd.pinned (OpenSpec.upto chargerExchangedSpec)

end Rows
end Go.Proofs.YtnfanhnflcjphaaDoor
