/-
  No cell of these rows narrows 'for every input' (looked for: loops, veiled, ifaces, maps, wideKeys, modest, calm, conditions, laid).
  DERIVED. THE GIVEN ROWS OF THIS SEAT. 3 by the template 'for every input the law returns true; each argument reads behind the call as it read before'; 0 by the template 'total and deterministic' (their statements: YtplblmhnccdgcaaGreatTotals.lean).
  GIVEN WITH THE SEED: the statements are not yours to turn. If you find one false, say at which input.
  Laid BY PROGRAM, IN A SANDBOX (cutbox-rows.mjs): the forced cells as the released guide's own fill.sh prints them over the translation 5d88a716dfdd9acb… (all of the seat's roots in one cut). By AI agents, Wed Nov 11 2026. No macro, syntax, notation, axiom, sorry.
-/
import Derived.Test.YtplblmhnccdgcaaGreatChecked
import GoSem.Claim
import GoSem.ClaimJoined
import GoSem.ClaimMapViews
import Derived.JoinedTies
import Derived.KernelRfl
namespace Go.Proofs.YtplblmhnccdgcaaGreat
/- THE CELL 'sum', in the pinned program and in every row, IS THE sha256 OF THE DUMP (.gsa) THAT YtplblmhnccdgcaaGreatProg.lean LOADS. Nothing in Lean hashes anything: it is a label: what it is worth is what the hold of that sum in a sandbox is worth. -/
noncomputable def Tryz.pinned : Pinned := { name := "ytplblmhnccdgcaagreat", sum := "5d88a716dfdd9acbe5d5c249f506bac648a2f403859acdb5d944b86e203f2d5b", checked := Tryz.checked }
namespace Rows
def none {H : Type} : Left H := { results := [], args := [] }

/-- 'plnlaw30.GlobRow': WHATEVER THE INPUT: true; the input reads as it did. -/
def globRowSpec : ChangeSpec := { name := "globRow", fn := fun _ => fun
  | [d1, d2, d3, d4] => { results := [.lit (.bool true)], args := [d1, d2, d3, d4] }
  | _ => none }
def globRowRow : OpenClaim := { program := "ytplblmhnccdgcaagreat", sum := "5d88a716dfdd9acbe5d5c249f506bac648a2f403859acdb5d944b86e203f2d5b", func := "planish/plnlaw30.GlobRow", spec := "globRow", inPlace := ["slices.overlaps[planish/api.Ins]"], unfollowed := true, recurses := true, plainKeys := false, apart := false }
def GlobRowSaid : Prop := globRowRow.holds Tryz.pinned (OpenSpec.ofChange globRowSpec)

/-- ITS FALSE NEIGHBOUR: 'it returns false'. Refute it at one input. -/
def globRowWrong : ChangeSpec := { name := "globRow", fn := fun _ => fun
  | [d1, d2, d3, d4] => { results := [.lit (.bool false)], args := [d1, d2, d3, d4] }
  | _ => none }
def GlobRowWrongFalsely : Prop := globRowRow.holds Tryz.pinned (OpenSpec.ofChange globRowWrong)

/-- 'plnlaw27.IpcpChain': WHATEVER THE INPUT: true; the input reads as it did. -/
def ipcpChainSpec : ChangeSpec := { name := "ipcpChain", fn := fun _ => fun
  | [d1, d2] => { results := [.lit (.bool true)], args := [d1, d2] }
  | _ => none }
def ipcpChainRow : OpenClaim := { program := "ytplblmhnccdgcaagreat", sum := "5d88a716dfdd9acbe5d5c249f506bac648a2f403859acdb5d944b86e203f2d5b", func := "planish/plnlaw27.IpcpChain", spec := "ipcpChain", inPlace := ["slices.overlaps[planish/api.Ins]"], unfollowed := true, recurses := true, plainKeys := false, apart := false }
def IpcpChainSaid : Prop := ipcpChainRow.holds Tryz.pinned (OpenSpec.ofChange ipcpChainSpec)

/-- ITS FALSE NEIGHBOUR: 'it returns false'. Refute it at one input. -/
def ipcpChainWrong : ChangeSpec := { name := "ipcpChain", fn := fun _ => fun
  | [d1, d2] => { results := [.lit (.bool false)], args := [d1, d2] }
  | _ => none }
def IpcpChainWrongFalsely : Prop := ipcpChainRow.holds Tryz.pinned (OpenSpec.ofChange ipcpChainWrong)

/-- 'plnlaw21.DceIdle': WHATEVER THE INPUT: true; the input reads as it did. -/
def dceIdleSpec : ChangeSpec := { name := "dceIdle", fn := fun _ => fun
  | [d1, d2] => { results := [.lit (.bool true)], args := [d1, d2] }
  | _ => none }
def dceIdleRow : OpenClaim := { program := "ytplblmhnccdgcaagreat", sum := "5d88a716dfdd9acbe5d5c249f506bac648a2f403859acdb5d944b86e203f2d5b", func := "planish/plnlaw21.DceIdle", spec := "dceIdle", unfollowed := true, recurses := true, plainKeys := false, apart := false }
def DceIdleSaid : Prop := dceIdleRow.holds Tryz.pinned (OpenSpec.ofChange dceIdleSpec)

/-- ITS FALSE NEIGHBOUR: 'it returns false'. Refute it at one input. -/
def dceIdleWrong : ChangeSpec := { name := "dceIdle", fn := fun _ => fun
  | [d1, d2] => { results := [.lit (.bool false)], args := [d1, d2] }
  | _ => none }
def DceIdleWrongFalsely : Prop := dceIdleRow.holds Tryz.pinned (OpenSpec.ofChange dceIdleWrong)

/- THE SECOND FORM. 'bulk': how many values and letters a reading holds, each counted each time it is reached (what is shared counts as often as it is met; a slice's spare places count too). A statement '..UptoSaid' is the law's where the arguments, and the package variables that the reading takes, are together of bulk at most 1048576: NARROWER than '..Said'. Prove '..Said' where nothing that the law and all that it calls make is longer than what came in: it says more and counts as full. Else prove '..UptoSaid'. A law counts once. -/
mutual
def uptoBulk {H : Type} : DataW H → Nat
  | .lit (.string bytes) => bytes.length + 1
  | .lit _ => 1
  | .nil => 1
  | .ptr d => uptoBulk d + 1
  | .slice elems spare => uptoBulkAll elems + uptoBulkAll spare + 1
  | .agg parts => uptoBulkAll parts + 1
  | .iface _ d => uptoBulk d + 1
  | .map entries => uptoBulkEntries entries + 1
  | .held _ => 1
def uptoBulkAll {H : Type} : List (DataW H) → Nat
  | [] => 0
  | d :: r => uptoBulk d + uptoBulkAll r
def uptoBulkEntries {H : Type} : List (Lit × DataW H) → Nat
  | [] => 0
  | x :: r => uptoBulkEntry x + uptoBulkEntries r
def uptoBulkEntry {H : Type} : Lit × DataW H → Nat
  | (.string bytes, d) => bytes.length + uptoBulk d + 1
  | (_, d) => uptoBulk d + 1
 end
def uptoSmall : (H : Type) → List (DataW H) → Bool := fun _ ds => decide (uptoBulkAll ds ≤ 1048576)
def OpenSpec.upto (s : _root_.Go.ChangeSpec) : _root_.Go.OpenSpec := { _root_.Go.OpenSpec.ofChange s with cond := some uptoSmall }

/-- 'plnlaw30.GlobRow', WHERE WHAT IT READS IS OF BULK AT MOST 1048576: true; the input reads as it did. -/
def globRowUptoRow : OpenClaim := { program := "ytplblmhnccdgcaagreat", sum := "5d88a716dfdd9acbe5d5c249f506bac648a2f403859acdb5d944b86e203f2d5b", func := "planish/plnlaw30.GlobRow", spec := "globRow", inPlace := ["slices.overlaps[planish/api.Ins]"], unfollowed := true, recurses := true, plainKeys := false, apart := false, narrowed := true }
def GlobRowUptoSaid : Prop := globRowUptoRow.holds Tryz.pinned (OpenSpec.upto globRowSpec)

/-- 'plnlaw27.IpcpChain', WHERE WHAT IT READS IS OF BULK AT MOST 1048576: true; the input reads as it did. -/
def ipcpChainUptoRow : OpenClaim := { program := "ytplblmhnccdgcaagreat", sum := "5d88a716dfdd9acbe5d5c249f506bac648a2f403859acdb5d944b86e203f2d5b", func := "planish/plnlaw27.IpcpChain", spec := "ipcpChain", inPlace := ["slices.overlaps[planish/api.Ins]"], unfollowed := true, recurses := true, plainKeys := false, apart := false, narrowed := true }
def IpcpChainUptoSaid : Prop := ipcpChainUptoRow.holds Tryz.pinned (OpenSpec.upto ipcpChainSpec)

/-- 'plnlaw21.DceIdle', WHERE WHAT IT READS IS OF BULK AT MOST 1048576: true; the input reads as it did. -/
def dceIdleUptoRow : OpenClaim := { program := "ytplblmhnccdgcaagreat", sum := "5d88a716dfdd9acbe5d5c249f506bac648a2f403859acdb5d944b86e203f2d5b", func := "planish/plnlaw21.DceIdle", spec := "dceIdle", unfollowed := true, recurses := true, plainKeys := false, apart := false, narrowed := true }
def DceIdleUptoSaid : Prop := dceIdleUptoRow.holds Tryz.pinned (OpenSpec.upto dceIdleSpec)

end Rows
end Go.Proofs.YtplblmhnccdgcaaGreat
