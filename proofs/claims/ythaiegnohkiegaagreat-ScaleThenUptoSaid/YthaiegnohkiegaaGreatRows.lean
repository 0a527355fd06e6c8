/-
  NARROWER THAN 'FOR EVERY INPUT', by the rows' own cells (each row's printed sentence says how): ScaleExact: loops · ScaleThen: loops.
  DERIVED. THE GIVEN ROWS OF THIS SEAT. 3 by the template 'for every input the law returns true; each argument reads behind the call as it read before'; 0 by the template 'total and deterministic' (their statements: YthaiegnohkiegaaGreatTotals.lean).
  GIVEN WITH THE SEED: the statements are not yours to turn. If you find one false, say at which input.
  Laid BY PROGRAM, IN A SANDBOX (cutbox-rows.mjs): the forced cells as the released guide's own fill.sh prints them over the translation 687597f81f45a920… (all of the seat's roots in one cut). By AI agents, Wed Nov 11 2026. No macro, syntax, notation, axiom, sorry.
-/
import Derived.Test.YthaiegnohkiegaaGreatChecked
import GoSem.Claim
import GoSem.ClaimJoined
import GoSem.ClaimMapViews
import Derived.JoinedTies
import Derived.KernelRfl
namespace Go.Proofs.YthaiegnohkiegaaGreat
/- THE CELL 'sum', in the pinned program and in every row, IS THE sha256 OF THE DUMP (.gsa) THAT YthaiegnohkiegaaGreatProg.lean LOADS. Nothing in Lean hashes anything: it is a label: what it is worth is what the hold of that sum in a sandbox is worth. -/
noncomputable def Tryz.pinned : Pinned := { name := "ythaiegnohkiegaagreat", sum := "687597f81f45a9206b94da753ca502702fd303ca69b448ead928506e42265af7", checked := Tryz.checked }
namespace Rows
def none {H : Type} : Left H := { results := [], args := [] }

/-- 'gaugelaw21.ScaleExact': WHATEVER THE INPUT: true; the input reads as it did. -/
def scaleExactSpec : ChangeSpec := { name := "scaleExact", fn := fun _ => fun
  | [d] => { results := [.lit (.bool true)], args := [d] }
  | _ => none }
def scaleExactRow : OpenClaim := { program := "ythaiegnohkiegaagreat", sum := "687597f81f45a9206b94da753ca502702fd303ca69b448ead928506e42265af7", func := "gauge/gaugelaw21.ScaleExact", spec := "scaleExact", inPlace := ["internal/bytealg.abigen_runtime_cmpstring", "math/bits.Add64", "math/bits.Sub64"], unfollowed := true, recurses := true, named := ["math/bits.divideError", "math/bits.overflowError"], loops := true, apart := false }
def ScaleExactSaid : Prop := scaleExactRow.holds Tryz.pinned (OpenSpec.ofChange scaleExactSpec)

/-- ITS FALSE NEIGHBOUR: 'it returns false'. Refute it at one input. -/
def scaleExactWrong : ChangeSpec := { name := "scaleExact", fn := fun _ => fun
  | [d] => { results := [.lit (.bool false)], args := [d] }
  | _ => none }
def ScaleExactWrongFalsely : Prop := scaleExactRow.holds Tryz.pinned (OpenSpec.ofChange scaleExactWrong)

/-- 'gaugelaw21.ScaleThen': WHATEVER THE INPUT: true; the input reads as it did. -/
def scaleThenSpec : ChangeSpec := { name := "scaleThen", fn := fun _ => fun
  | [d] => { results := [.lit (.bool true)], args := [d] }
  | _ => none }
def scaleThenRow : OpenClaim := { program := "ythaiegnohkiegaagreat", sum := "687597f81f45a9206b94da753ca502702fd303ca69b448ead928506e42265af7", func := "gauge/gaugelaw21.ScaleThen", spec := "scaleThen", inPlace := ["internal/bytealg.abigen_runtime_cmpstring", "math/bits.Add64", "math/bits.Sub64"], unfollowed := true, recurses := true, named := ["math/bits.divideError", "math/bits.overflowError"], loops := true, apart := false }
def ScaleThenSaid : Prop := scaleThenRow.holds Tryz.pinned (OpenSpec.ofChange scaleThenSpec)

/-- ITS FALSE NEIGHBOUR: 'it returns false'. Refute it at one input. -/
def scaleThenWrong : ChangeSpec := { name := "scaleThen", fn := fun _ => fun
  | [d] => { results := [.lit (.bool false)], args := [d] }
  | _ => none }
def ScaleThenWrongFalsely : Prop := scaleThenRow.holds Tryz.pinned (OpenSpec.ofChange scaleThenWrong)

/-- 'gaugelaw21.ScalePowers': WHATEVER THE INPUT: true; the input reads as it did. -/
def scalePowersSpec : ChangeSpec := { name := "scalePowers", fn := fun _ => fun
  | [d] => { results := [.lit (.bool true)], args := [d] }
  | _ => none }
def scalePowersRow : OpenClaim := { program := "ythaiegnohkiegaagreat", sum := "687597f81f45a9206b94da753ca502702fd303ca69b448ead928506e42265af7", func := "gauge/gaugelaw21.ScalePowers", spec := "scalePowers", inPlace := ["internal/bytealg.abigen_runtime_cmpstring", "math/bits.Add64", "math/bits.Sub64"], unfollowed := true, recurses := true, named := ["math/bits.divideError", "math/bits.overflowError"], apart := false }
def ScalePowersSaid : Prop := scalePowersRow.holds Tryz.pinned (OpenSpec.ofChange scalePowersSpec)

/-- ITS FALSE NEIGHBOUR: 'it returns false'. Refute it at one input. -/
def scalePowersWrong : ChangeSpec := { name := "scalePowers", fn := fun _ => fun
  | [d] => { results := [.lit (.bool false)], args := [d] }
  | _ => none }
def ScalePowersWrongFalsely : Prop := scalePowersRow.holds Tryz.pinned (OpenSpec.ofChange scalePowersWrong)

/- THE SECOND FORM. 'bulk': how many values and letters a reading holds, each counted each time it is reached (what is shared counts as often as it is met; a slice's spare places count too). A statement '..UptoSaid' is the law's where the arguments, and the package variables that the reading takes, are together of bulk at most 1048576: NARROWER than '..Said'. Prove '..Said' where nothing that the law and all that it calls make is longer than what came in: it says more and counts as full. Else prove '..UptoSaid'. A law counts once. -/
mutual
def uptoBulk {H : Type} : DataW H → Nat
  | .lit (.string bytes) => bytes.length + 1
  | .lit _ => 1
  | .nil => 1
  | .ptr d => uptoBulk d + 1
  | .slice elems spare => uptoBulkAll elems + uptoBulkAll spare + 1
  | .agg parts => uptoBulkAll parts + 1
  | .iface _ d => uptoBulk d + 1
  | .map entries => uptoBulkEntries entries + 1
  | .held _ => 1
def uptoBulkAll {H : Type} : List (DataW H) → Nat
  | [] => 0
  | d :: r => uptoBulk d + uptoBulkAll r
def uptoBulkEntries {H : Type} : List (Lit × DataW H) → Nat
  | [] => 0
  | x :: r => uptoBulkEntry x + uptoBulkEntries r
def uptoBulkEntry {H : Type} : Lit × DataW H → Nat
  | (.string bytes, d) => bytes.length + uptoBulk d + 1
  | (_, d) => uptoBulk d + 1
 end
def uptoSmall : (H : Type) → List (DataW H) → Bool := fun _ ds => decide (uptoBulkAll ds ≤ 1048576)
def OpenSpec.upto (s : _root_.Go.ChangeSpec) : _root_.Go.OpenSpec := { _root_.Go.OpenSpec.ofChange s with cond := some uptoSmall }

/-- 'gaugelaw21.ScaleExact', WHERE WHAT IT READS IS OF BULK AT MOST 1048576: true; the input reads as it did. -/
def scaleExactUptoRow : OpenClaim := { program := "ythaiegnohkiegaagreat", sum := "687597f81f45a9206b94da753ca502702fd303ca69b448ead928506e42265af7", func := "gauge/gaugelaw21.ScaleExact", spec := "scaleExact", inPlace := ["internal/bytealg.abigen_runtime_cmpstring", "math/bits.Add64", "math/bits.Sub64"], unfollowed := true, recurses := true, named := ["math/bits.divideError", "math/bits.overflowError"], loops := true, apart := false, narrowed := true }
def ScaleExactUptoSaid : Prop := scaleExactUptoRow.holds Tryz.pinned (OpenSpec.upto scaleExactSpec)

/-- 'gaugelaw21.ScaleThen', WHERE WHAT IT READS IS OF BULK AT MOST 1048576: true; the input reads as it did. -/
def scaleThenUptoRow : OpenClaim := { program := "ythaiegnohkiegaagreat", sum := "687597f81f45a9206b94da753ca502702fd303ca69b448ead928506e42265af7", func := "gauge/gaugelaw21.ScaleThen", spec := "scaleThen", inPlace := ["internal/bytealg.abigen_runtime_cmpstring", "math/bits.Add64", "math/bits.Sub64"], unfollowed := true, recurses := true, named := ["math/bits.divideError", "math/bits.overflowError"], loops := true, apart := false, narrowed := true }
def ScaleThenUptoSaid : Prop := scaleThenUptoRow.holds Tryz.pinned (OpenSpec.upto scaleThenSpec)

/-- 'gaugelaw21.ScalePowers', WHERE WHAT IT READS IS OF BULK AT MOST 1048576: true; the input reads as it did. -/
def scalePowersUptoRow : OpenClaim := { program := "ythaiegnohkiegaagreat", sum := "687597f81f45a9206b94da753ca502702fd303ca69b448ead928506e42265af7", func := "gauge/gaugelaw21.ScalePowers", spec := "scalePowers", inPlace := ["internal/bytealg.abigen_runtime_cmpstring", "math/bits.Add64", "math/bits.Sub64"], unfollowed := true, recurses := true, named := ["math/bits.divideError", "math/bits.overflowError"], apart := false, narrowed := true }
def ScalePowersUptoSaid : Prop := scalePowersUptoRow.holds Tryz.pinned (OpenSpec.upto scalePowersSpec)

end Rows
end Go.Proofs.YthaiegnohkiegaaGreat
