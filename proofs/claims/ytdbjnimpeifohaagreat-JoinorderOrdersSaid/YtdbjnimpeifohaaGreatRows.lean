/-
  NARROWER THAN 'FOR EVERY INPUT', by the rows' own cells (each row's printed sentence says how): PhysicalKeys: loops · PhysicalBounds: loops · JoinorderFlatten: loops · JoinorderBuild: loops.
  DERIVED. THE GIVEN ROWS OF THIS SEAT. 5 by the template 'for every input the law returns true; each argument reads behind the call as it read before'; 0 by the template 'total and deterministic' (their statements: YtdbjnimpeifohaaGreatTotals.lean).
  GIVEN WITH THE SEED: the statements are not yours to turn. If you find one false, say at which input.
  Laid BY PROGRAM, IN A SANDBOX (cutbox-rows.mjs): the forced cells as the released guide's own fill.sh prints them over the translation e4e4f31582fe117b… (all of the seat's roots in one cut). By AI agents, Wed Nov 11 2026. No macro, syntax, notation, axiom, sorry.
-/
import Derived.Test.YtdbjnimpeifohaaGreatChecked
import GoSem.Claim
import GoSem.ClaimJoined
import GoSem.ClaimMapViews
import Derived.JoinedTies
import Derived.KernelRfl
namespace Go.Proofs.YtdbjnimpeifohaaGreat
/- THE CELL 'sum', in the pinned program and in every row, IS THE sha256 OF THE DUMP (.gsa) THAT YtdbjnimpeifohaaGreatProg.lean LOADS. Nothing in Lean hashes anything: it is a label: what it is worth is what the hold of that sum in a sandbox is worth. -/
noncomputable def Tryz.pinned : Pinned := { name := "ytdbjnimpeifohaagreat", sum := "e4e4f31582fe117b5f9305a160403d236ef46d3fc0a0d0884c0b7c6ff1821216", checked := Tryz.checked }
namespace Rows
def none {H : Type} : Left H := { results := [], args := [] }

/-- 'lineagelaw40.PhysicalKeys': WHATEVER THE INPUT: true; the input reads as it did. -/
def physicalKeysSpec : ChangeSpec := { name := "physicalKeys", fn := fun _ => fun
  | [d1, d2, d3, d4] => { results := [.lit (.bool true)], args := [d1, d2, d3, d4] }
  | _ => none }
def physicalKeysRow : OpenClaim := { program := "ytdbjnimpeifohaagreat", sum := "e4e4f31582fe117b5f9305a160403d236ef46d3fc0a0d0884c0b7c6ff1821216", func := "lineage/lineagelaw40.PhysicalKeys", spec := "physicalKeys", inPlace := ["internal/bytealg.abigen_runtime_cmpstring"], unfollowed := true, recurses := true, loops := true, apart := false }
def PhysicalKeysSaid : Prop := physicalKeysRow.holds Tryz.pinned (OpenSpec.ofChange physicalKeysSpec)

/-- ITS FALSE NEIGHBOUR: 'it returns false'. Refute it at one input. -/
def physicalKeysWrong : ChangeSpec := { name := "physicalKeys", fn := fun _ => fun
  | [d1, d2, d3, d4] => { results := [.lit (.bool false)], args := [d1, d2, d3, d4] }
  | _ => none }
def PhysicalKeysWrongFalsely : Prop := physicalKeysRow.holds Tryz.pinned (OpenSpec.ofChange physicalKeysWrong)

/-- 'lineagelaw40.PhysicalBounds': WHATEVER THE INPUT: true; the input reads as it did. -/
def physicalBoundsSpec : ChangeSpec := { name := "physicalBounds", fn := fun _ => fun
  | [d1, d2, d3, d4] => { results := [.lit (.bool true)], args := [d1, d2, d3, d4] }
  | _ => none }
def physicalBoundsRow : OpenClaim := { program := "ytdbjnimpeifohaagreat", sum := "e4e4f31582fe117b5f9305a160403d236ef46d3fc0a0d0884c0b7c6ff1821216", func := "lineage/lineagelaw40.PhysicalBounds", spec := "physicalBounds", inPlace := ["internal/bytealg.abigen_runtime_cmpstring"], unfollowed := true, recurses := true, loops := true, apart := false }
def PhysicalBoundsSaid : Prop := physicalBoundsRow.holds Tryz.pinned (OpenSpec.ofChange physicalBoundsSpec)

/-- ITS FALSE NEIGHBOUR: 'it returns false'. Refute it at one input. -/
def physicalBoundsWrong : ChangeSpec := { name := "physicalBounds", fn := fun _ => fun
  | [d1, d2, d3, d4] => { results := [.lit (.bool false)], args := [d1, d2, d3, d4] }
  | _ => none }
def PhysicalBoundsWrongFalsely : Prop := physicalBoundsRow.holds Tryz.pinned (OpenSpec.ofChange physicalBoundsWrong)

/-- 'lineagelaw39.JoinorderFlatten': WHATEVER THE INPUT: true; the input reads as it did. -/
def joinorderFlattenSpec : ChangeSpec := { name := "joinorderFlatten", fn := fun _ => fun
  | [d] => { results := [.lit (.bool true)], args := [d] }
  | _ => none }
def joinorderFlattenRow : OpenClaim := { program := "ytdbjnimpeifohaagreat", sum := "e4e4f31582fe117b5f9305a160403d236ef46d3fc0a0d0884c0b7c6ff1821216", func := "lineage/lineagelaw39.JoinorderFlatten", spec := "joinorderFlatten", inPlace := ["internal/bytealg.abigen_runtime_cmpstring"], unfollowed := true, recurses := true, loops := true, apart := false }
def JoinorderFlattenSaid : Prop := joinorderFlattenRow.holds Tryz.pinned (OpenSpec.ofChange joinorderFlattenSpec)

/-- ITS FALSE NEIGHBOUR: 'it returns false'. Refute it at one input. -/
def joinorderFlattenWrong : ChangeSpec := { name := "joinorderFlatten", fn := fun _ => fun
  | [d] => { results := [.lit (.bool false)], args := [d] }
  | _ => none }
def JoinorderFlattenWrongFalsely : Prop := joinorderFlattenRow.holds Tryz.pinned (OpenSpec.ofChange joinorderFlattenWrong)

/-- 'lineagelaw39.JoinorderBuild': WHATEVER THE INPUT: true; the input reads as it did. -/
def joinorderBuildSpec : ChangeSpec := { name := "joinorderBuild", fn := fun _ => fun
  | [d1, d2, d3] => { results := [.lit (.bool true)], args := [d1, d2, d3] }
  | _ => none }
def joinorderBuildRow : OpenClaim := { program := "ytdbjnimpeifohaagreat", sum := "e4e4f31582fe117b5f9305a160403d236ef46d3fc0a0d0884c0b7c6ff1821216", func := "lineage/lineagelaw39.JoinorderBuild", spec := "joinorderBuild", inPlace := ["internal/bytealg.abigen_runtime_cmpstring"], unfollowed := true, recurses := true, loops := true, apart := false }
def JoinorderBuildSaid : Prop := joinorderBuildRow.holds Tryz.pinned (OpenSpec.ofChange joinorderBuildSpec)

/-- ITS FALSE NEIGHBOUR: 'it returns false'. Refute it at one input. -/
def joinorderBuildWrong : ChangeSpec := { name := "joinorderBuild", fn := fun _ => fun
  | [d1, d2, d3] => { results := [.lit (.bool false)], args := [d1, d2, d3] }
  | _ => none }
def JoinorderBuildWrongFalsely : Prop := joinorderBuildRow.holds Tryz.pinned (OpenSpec.ofChange joinorderBuildWrong)

/-- 'lineagelaw39.JoinorderOrders': WHATEVER THE INPUT: true; the input reads as it did. -/
def joinorderOrdersSpec : ChangeSpec := { name := "joinorderOrders", fn := fun _ => fun
  | [d] => { results := [.lit (.bool true)], args := [d] }
  | _ => none }
def joinorderOrdersRow : OpenClaim := { program := "ytdbjnimpeifohaagreat", sum := "e4e4f31582fe117b5f9305a160403d236ef46d3fc0a0d0884c0b7c6ff1821216", func := "lineage/lineagelaw39.JoinorderOrders", spec := "joinorderOrders", inPlace := ["internal/bytealg.abigen_runtime_cmpstring"], unfollowed := true, recurses := true, apart := false }
def JoinorderOrdersSaid : Prop := joinorderOrdersRow.holds Tryz.pinned (OpenSpec.ofChange joinorderOrdersSpec)

/-- ITS FALSE NEIGHBOUR: 'it returns false'. Refute it at one input. -/
def joinorderOrdersWrong : ChangeSpec := { name := "joinorderOrders", fn := fun _ => fun
  | [d] => { results := [.lit (.bool false)], args := [d] }
  | _ => none }
def JoinorderOrdersWrongFalsely : Prop := joinorderOrdersRow.holds Tryz.pinned (OpenSpec.ofChange joinorderOrdersWrong)

/- THE SECOND FORM. 'bulk': how many values and letters a reading holds, each counted each time it is reached (what is shared counts as often as it is met; a slice's spare places count too). A statement '..UptoSaid' is the law's where the arguments, and the package variables that the reading takes, are together of bulk at most 1048576: NARROWER than '..Said'. Prove '..Said' where nothing that the law and all that it calls make is longer than what came in: it says more and counts as full. Else prove '..UptoSaid'. A law counts once. -/
mutual
def uptoBulk {H : Type} : DataW H → Nat
  | .lit (.string bytes) => bytes.length + 1
  | .lit _ => 1
  | .nil => 1
  | .ptr d => uptoBulk d + 1
  | .slice elems spare => uptoBulkAll elems + uptoBulkAll spare + 1
  | .agg parts => uptoBulkAll parts + 1
  | .iface _ d => uptoBulk d + 1
  | .map entries => uptoBulkEntries entries + 1
  | .held _ => 1
def uptoBulkAll {H : Type} : List (DataW H) → Nat
  | [] => 0
  | d :: r => uptoBulk d + uptoBulkAll r
def uptoBulkEntries {H : Type} : List (Lit × DataW H) → Nat
  | [] => 0
  | x :: r => uptoBulkEntry x + uptoBulkEntries r
def uptoBulkEntry {H : Type} : Lit × DataW H → Nat
  | (.string bytes, d) => bytes.length + uptoBulk d + 1
  | (_, d) => uptoBulk d + 1
 end
def uptoSmall : (H : Type) → List (DataW H) → Bool := fun _ ds => decide (uptoBulkAll ds ≤ 1048576)
def OpenSpec.upto (s : _root_.Go.ChangeSpec) : _root_.Go.OpenSpec := { _root_.Go.OpenSpec.ofChange s with cond := some uptoSmall }

/-- 'lineagelaw40.PhysicalKeys', WHERE WHAT IT READS IS OF BULK AT MOST 1048576: true; the input reads as it did. -/
def physicalKeysUptoRow : OpenClaim := { program := "ytdbjnimpeifohaagreat", sum := "e4e4f31582fe117b5f9305a160403d236ef46d3fc0a0d0884c0b7c6ff1821216", func := "lineage/lineagelaw40.PhysicalKeys", spec := "physicalKeys", inPlace := ["internal/bytealg.abigen_runtime_cmpstring"], unfollowed := true, recurses := true, loops := true, apart := false, narrowed := true }
def PhysicalKeysUptoSaid : Prop := physicalKeysUptoRow.holds Tryz.pinned (OpenSpec.upto physicalKeysSpec)

/-- 'lineagelaw40.PhysicalBounds', WHERE WHAT IT READS IS OF BULK AT MOST 1048576: true; the input reads as it did. -/
def physicalBoundsUptoRow : OpenClaim := { program := "ytdbjnimpeifohaagreat", sum := "e4e4f31582fe117b5f9305a160403d236ef46d3fc0a0d0884c0b7c6ff1821216", func := "lineage/lineagelaw40.PhysicalBounds", spec := "physicalBounds", inPlace := ["internal/bytealg.abigen_runtime_cmpstring"], unfollowed := true, recurses := true, loops := true, apart := false, narrowed := true }
def PhysicalBoundsUptoSaid : Prop := physicalBoundsUptoRow.holds Tryz.pinned (OpenSpec.upto physicalBoundsSpec)

/-- 'lineagelaw39.JoinorderFlatten', WHERE WHAT IT READS IS OF BULK AT MOST 1048576: true; the input reads as it did. -/
def joinorderFlattenUptoRow : OpenClaim := { program := "ytdbjnimpeifohaagreat", sum := "e4e4f31582fe117b5f9305a160403d236ef46d3fc0a0d0884c0b7c6ff1821216", func := "lineage/lineagelaw39.JoinorderFlatten", spec := "joinorderFlatten", inPlace := ["internal/bytealg.abigen_runtime_cmpstring"], unfollowed := true, recurses := true, loops := true, apart := false, narrowed := true }
def JoinorderFlattenUptoSaid : Prop := joinorderFlattenUptoRow.holds Tryz.pinned (OpenSpec.upto joinorderFlattenSpec)

/-- 'lineagelaw39.JoinorderBuild', WHERE WHAT IT READS IS OF BULK AT MOST 1048576: true; the input reads as it did. -/
def joinorderBuildUptoRow : OpenClaim := { program := "ytdbjnimpeifohaagreat", sum := "e4e4f31582fe117b5f9305a160403d236ef46d3fc0a0d0884c0b7c6ff1821216", func := "lineage/lineagelaw39.JoinorderBuild", spec := "joinorderBuild", inPlace := ["internal/bytealg.abigen_runtime_cmpstring"], unfollowed := true, recurses := true, loops := true, apart := false, narrowed := true }
def JoinorderBuildUptoSaid : Prop := joinorderBuildUptoRow.holds Tryz.pinned (OpenSpec.upto joinorderBuildSpec)

/-- 'lineagelaw39.JoinorderOrders', WHERE WHAT IT READS IS OF BULK AT MOST 1048576: true; the input reads as it did. -/
def joinorderOrdersUptoRow : OpenClaim := { program := "ytdbjnimpeifohaagreat", sum := "e4e4f31582fe117b5f9305a160403d236ef46d3fc0a0d0884c0b7c6ff1821216", func := "lineage/lineagelaw39.JoinorderOrders", spec := "joinorderOrders", inPlace := ["internal/bytealg.abigen_runtime_cmpstring"], unfollowed := true, recurses := true, apart := false, narrowed := true }
def JoinorderOrdersUptoSaid : Prop := joinorderOrdersUptoRow.holds Tryz.pinned (OpenSpec.upto joinorderOrdersSpec)

end Rows
end Go.Proofs.YtdbjnimpeifohaaGreat
