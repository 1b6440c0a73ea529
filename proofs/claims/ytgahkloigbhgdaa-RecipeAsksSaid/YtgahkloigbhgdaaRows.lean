/-
  No cell of these rows narrows 'for every input' (looked for: loops, veiled, ifaces, maps, wideKeys, modest, calm, conditions, laid).
  DERIVED. THE GIVEN ROWS OF THIS SEAT. 5 by the template 'for every input the law returns true; each argument reads behind the call as it read before'; 0 by the template 'total and deterministic' (their statements: YtgahkloigbhgdaaTotals.lean).
  GIVEN WITH THE SEED: the statements are not yours to turn. If you find one false, say at which input.
  Laid BY PROGRAM, IN A SANDBOX (cutbox-rows.mjs): the forced cells as the released guide's own fill.sh prints them over the translation 50b262cadfc7cdd2… (all of the seat's roots in one cut). By AI agents, Wed Nov 11 2026. No macro, syntax, notation, axiom, sorry.
-/
import Derived.Test.YtgahkloigbhgdaaChecked
import GoSem.Claim
import GoSem.ClaimJoined
import GoSem.ClaimMapViews
import Derived.JoinedTies
import Derived.KernelRfl
namespace Go.Proofs.Ytgahkloigbhgdaa
/- THE CELL 'sum', in the pinned program and in every row, IS THE sha256 OF THE DUMP (.gsa) THAT YtgahkloigbhgdaaProg.lean LOADS. Nothing in Lean hashes anything: it is a label: what it is worth is what the hold of that sum in a sandbox is worth. -/
noncomputable def Try.pinned : Pinned := { name := "ytgahkloigbhgdaa", sum := "50b262cadfc7cdd2ec9bc6ba8ae6e2f25cb26247ac16dc0edd6ce7d21eb19f09", checked := Try.checked }
namespace Rows
def none {H : Type} : Left H := { results := [], args := [] }

/-- 'butlerlaw11.RecipeNames': WHATEVER THE INPUT: true; the input reads as it did. -/
def recipeNamesSpec : ChangeSpec := { name := "recipeNames", fn := fun _ => fun
  | [] => { results := [.lit (.bool true)], args := [] }
  | _ => none }
def recipeNamesRow : OpenClaim := { program := "ytgahkloigbhgdaa", sum := "50b262cadfc7cdd2ec9bc6ba8ae6e2f25cb26247ac16dc0edd6ce7d21eb19f09", func := "butler/butlerlaw11.RecipeNames", spec := "recipeNames", unfollowed := true, recurses := true, apart := false }
def RecipeNamesSaid : Prop := recipeNamesRow.holds Try.pinned (OpenSpec.ofChange recipeNamesSpec)

/-- ITS FALSE NEIGHBOUR: 'it returns false'. Refute it at one input. -/
def recipeNamesWrong : ChangeSpec := { name := "recipeNames", fn := fun _ => fun
  | [] => { results := [.lit (.bool false)], args := [] }
  | _ => none }
def RecipeNamesWrongFalsely : Prop := recipeNamesRow.holds Try.pinned (OpenSpec.ofChange recipeNamesWrong)

/-- 'butlerlaw11.RecipeAsks': WHATEVER THE INPUT: true; the input reads as it did. -/
def recipeAsksSpec : ChangeSpec := { name := "recipeAsks", fn := fun _ => fun
  | [d1, d2, d3] => { results := [.lit (.bool true)], args := [d1, d2, d3] }
  | _ => none }
def recipeAsksRow : OpenClaim := { program := "ytgahkloigbhgdaa", sum := "50b262cadfc7cdd2ec9bc6ba8ae6e2f25cb26247ac16dc0edd6ce7d21eb19f09", func := "butler/butlerlaw11.RecipeAsks", spec := "recipeAsks", unfollowed := true, recurses := true, apart := false }
def RecipeAsksSaid : Prop := recipeAsksRow.holds Try.pinned (OpenSpec.ofChange recipeAsksSpec)

/-- ITS FALSE NEIGHBOUR: 'it returns false'. Refute it at one input. -/
def recipeAsksWrong : ChangeSpec := { name := "recipeAsks", fn := fun _ => fun
  | [d1, d2, d3] => { results := [.lit (.bool false)], args := [d1, d2, d3] }
  | _ => none }
def RecipeAsksWrongFalsely : Prop := recipeAsksRow.holds Try.pinned (OpenSpec.ofChange recipeAsksWrong)

/-- 'butlerlaw11.RecipeFates': WHATEVER THE INPUT: true; the input reads as it did. -/
def recipeFatesSpec : ChangeSpec := { name := "recipeFates", fn := fun _ => fun
  | [d] => { results := [.lit (.bool true)], args := [d] }
  | _ => none }
def recipeFatesRow : OpenClaim := { program := "ytgahkloigbhgdaa", sum := "50b262cadfc7cdd2ec9bc6ba8ae6e2f25cb26247ac16dc0edd6ce7d21eb19f09", func := "butler/butlerlaw11.RecipeFates", spec := "recipeFates", unfollowed := true, recurses := true, apart := false }
def RecipeFatesSaid : Prop := recipeFatesRow.holds Try.pinned (OpenSpec.ofChange recipeFatesSpec)

/-- ITS FALSE NEIGHBOUR: 'it returns false'. Refute it at one input. -/
def recipeFatesWrong : ChangeSpec := { name := "recipeFates", fn := fun _ => fun
  | [d] => { results := [.lit (.bool false)], args := [d] }
  | _ => none }
def RecipeFatesWrongFalsely : Prop := recipeFatesRow.holds Try.pinned (OpenSpec.ofChange recipeFatesWrong)

/-- 'butlerlaw11.RecipeOrders': WHATEVER THE INPUT: true; the input reads as it did. -/
def recipeOrdersSpec : ChangeSpec := { name := "recipeOrders", fn := fun _ => fun
  | [d1, d2, d3] => { results := [.lit (.bool true)], args := [d1, d2, d3] }
  | _ => none }
def recipeOrdersRow : OpenClaim := { program := "ytgahkloigbhgdaa", sum := "50b262cadfc7cdd2ec9bc6ba8ae6e2f25cb26247ac16dc0edd6ce7d21eb19f09", func := "butler/butlerlaw11.RecipeOrders", spec := "recipeOrders", unfollowed := true, recurses := true, apart := false }
def RecipeOrdersSaid : Prop := recipeOrdersRow.holds Try.pinned (OpenSpec.ofChange recipeOrdersSpec)

/-- ITS FALSE NEIGHBOUR: 'it returns false'. Refute it at one input. -/
def recipeOrdersWrong : ChangeSpec := { name := "recipeOrders", fn := fun _ => fun
  | [d1, d2, d3] => { results := [.lit (.bool false)], args := [d1, d2, d3] }
  | _ => none }
def RecipeOrdersWrongFalsely : Prop := recipeOrdersRow.holds Try.pinned (OpenSpec.ofChange recipeOrdersWrong)

/-- 'butlerlaw11.RecipeApart': WHATEVER THE INPUT: true; the input reads as it did. -/
def recipeApartSpec : ChangeSpec := { name := "recipeApart", fn := fun _ => fun
  | [d1, d2, d3] => { results := [.lit (.bool true)], args := [d1, d2, d3] }
  | _ => none }
def recipeApartRow : OpenClaim := { program := "ytgahkloigbhgdaa", sum := "50b262cadfc7cdd2ec9bc6ba8ae6e2f25cb26247ac16dc0edd6ce7d21eb19f09", func := "butler/butlerlaw11.RecipeApart", spec := "recipeApart", unfollowed := true, recurses := true, apart := false }
def RecipeApartSaid : Prop := recipeApartRow.holds Try.pinned (OpenSpec.ofChange recipeApartSpec)

/-- ITS FALSE NEIGHBOUR: 'it returns false'. Refute it at one input. -/
def recipeApartWrong : ChangeSpec := { name := "recipeApart", fn := fun _ => fun
  | [d1, d2, d3] => { results := [.lit (.bool false)], args := [d1, d2, d3] }
  | _ => none }
def RecipeApartWrongFalsely : Prop := recipeApartRow.holds Try.pinned (OpenSpec.ofChange recipeApartWrong)

/- THE SECOND FORM. 'bulk': how many values and letters a reading holds, each counted each time it is reached (what is shared counts as often as it is met; a slice's spare places count too). A statement '..UptoSaid' is the law's where the arguments, and the package variables that the reading takes, are together of bulk at most 1048576: NARROWER than '..Said'. Prove '..Said' where nothing that the law and all that it calls make is longer than what came in: it says more and counts as full. Else prove '..UptoSaid'. A law counts once. -/
mutual
def uptoBulk {H : Type} : DataW H → Nat
  | .lit (.string bytes) => bytes.length + 1
  | .lit _ => 1
  | .nil => 1
  | .ptr d => uptoBulk d + 1
  | .slice elems spare => uptoBulkAll elems + uptoBulkAll spare + 1
  | .agg parts => uptoBulkAll parts + 1
  | .iface _ d => uptoBulk d + 1
  | .map entries => uptoBulkEntries entries + 1
  | .held _ => 1
def uptoBulkAll {H : Type} : List (DataW H) → Nat
  | [] => 0
  | d :: r => uptoBulk d + uptoBulkAll r
def uptoBulkEntries {H : Type} : List (Lit × DataW H) → Nat
  | [] => 0
  | x :: r => uptoBulkEntry x + uptoBulkEntries r
def uptoBulkEntry {H : Type} : Lit × DataW H → Nat
  | (.string bytes, d) => bytes.length + uptoBulk d + 1
  | (_, d) => uptoBulk d + 1
 end
def uptoSmall : (H : Type) → List (DataW H) → Bool := fun _ ds => decide (uptoBulkAll ds ≤ 1048576)
def OpenSpec.upto (s : _root_.Go.ChangeSpec) : _root_.Go.OpenSpec := { _root_.Go.OpenSpec.ofChange s with cond := some uptoSmall }

/-- 'butlerlaw11.RecipeNames', WHERE WHAT IT READS IS OF BULK AT MOST 1048576: true; the input reads as it did. -/
def recipeNamesUptoRow : OpenClaim := { program := "ytgahkloigbhgdaa", sum := "50b262cadfc7cdd2ec9bc6ba8ae6e2f25cb26247ac16dc0edd6ce7d21eb19f09", func := "butler/butlerlaw11.RecipeNames", spec := "recipeNames", unfollowed := true, recurses := true, apart := false, narrowed := true }
def RecipeNamesUptoSaid : Prop := recipeNamesUptoRow.holds Try.pinned (OpenSpec.upto recipeNamesSpec)

/-- 'butlerlaw11.RecipeAsks', WHERE WHAT IT READS IS OF BULK AT MOST 1048576: true; the input reads as it did. -/
def recipeAsksUptoRow : OpenClaim := { program := "ytgahkloigbhgdaa", sum := "50b262cadfc7cdd2ec9bc6ba8ae6e2f25cb26247ac16dc0edd6ce7d21eb19f09", func := "butler/butlerlaw11.RecipeAsks", spec := "recipeAsks", unfollowed := true, recurses := true, apart := false, narrowed := true }
def RecipeAsksUptoSaid : Prop := recipeAsksUptoRow.holds Try.pinned (OpenSpec.upto recipeAsksSpec)

/-- 'butlerlaw11.RecipeFates', WHERE WHAT IT READS IS OF BULK AT MOST 1048576: true; the input reads as it did. -/
def recipeFatesUptoRow : OpenClaim := { program := "ytgahkloigbhgdaa", sum := "50b262cadfc7cdd2ec9bc6ba8ae6e2f25cb26247ac16dc0edd6ce7d21eb19f09", func := "butler/butlerlaw11.RecipeFates", spec := "recipeFates", unfollowed := true, recurses := true, apart := false, narrowed := true }
def RecipeFatesUptoSaid : Prop := recipeFatesUptoRow.holds Try.pinned (OpenSpec.upto recipeFatesSpec)

/-- 'butlerlaw11.RecipeOrders', WHERE WHAT IT READS IS OF BULK AT MOST 1048576: true; the input reads as it did. -/
def recipeOrdersUptoRow : OpenClaim := { program := "ytgahkloigbhgdaa", sum := "50b262cadfc7cdd2ec9bc6ba8ae6e2f25cb26247ac16dc0edd6ce7d21eb19f09", func := "butler/butlerlaw11.RecipeOrders", spec := "recipeOrders", unfollowed := true, recurses := true, apart := false, narrowed := true }
def RecipeOrdersUptoSaid : Prop := recipeOrdersUptoRow.holds Try.pinned (OpenSpec.upto recipeOrdersSpec)

/-- 'butlerlaw11.RecipeApart', WHERE WHAT IT READS IS OF BULK AT MOST 1048576: true; the input reads as it did. -/
def recipeApartUptoRow : OpenClaim := { program := "ytgahkloigbhgdaa", sum := "50b262cadfc7cdd2ec9bc6ba8ae6e2f25cb26247ac16dc0edd6ce7d21eb19f09", func := "butler/butlerlaw11.RecipeApart", spec := "recipeApart", unfollowed := true, recurses := true, apart := false, narrowed := true }
def RecipeApartUptoSaid : Prop := recipeApartUptoRow.holds Try.pinned (OpenSpec.upto recipeApartSpec)

end Rows
end Go.Proofs.Ytgahkloigbhgdaa
