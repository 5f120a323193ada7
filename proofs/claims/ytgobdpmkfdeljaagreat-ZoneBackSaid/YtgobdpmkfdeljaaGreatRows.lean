/-
  No cell of these rows narrows 'for every input' (looked for: loops, veiled, ifaces, maps, wideKeys, modest, calm, conditions, laid).
  DERIVED. THE GIVEN ROWS OF THIS SEAT. 7 by the template 'for every input the law returns true; each argument reads behind the call as it read before'; 0 by the template 'total and deterministic' (their statements: YtgobdpmkfdeljaaGreatTotals.lean).
  GIVEN WITH THE SEED: the statements are not yours to turn. If you find one false, say at which input.
  Laid BY PROGRAM, IN A SANDBOX (cutbox-rows.mjs): the forced cells as the released guide's own fill.sh prints them over the translation 05706f42b8aaa109… (all of the seat's roots in one cut). By AI agents, Wed Nov 11 2026. No macro, syntax, notation, axiom, sorry.
-/
import Derived.Test.YtgobdpmkfdeljaaGreatChecked
import GoSem.Claim
import GoSem.ClaimJoined
import GoSem.ClaimMapViews
import Derived.JoinedTies
import Derived.KernelRfl
namespace Go.Proofs.YtgobdpmkfdeljaaGreat
/- THE CELL 'sum', in the pinned program and in every row, IS THE sha256 OF THE DUMP (.gsa) THAT YtgobdpmkfdeljaaGreatProg.lean LOADS. Nothing in Lean hashes anything: it is a label: what it is worth is what the hold of that sum in a sandbox is worth. -/
noncomputable def Tryz.pinned : Pinned := { name := "ytgobdpmkfdeljaagreat", sum := "05706f42b8aaa109168d959bd1b51114cd2d872ee830669e4a76ccc88929bcff", checked := Tryz.checked }
namespace Rows
def none {H : Type} : Left H := { results := [], args := [] }

/-- 'trystlaw16.ZoneOffsets': WHATEVER THE INPUT: true; the input reads as it did. -/
def zoneOffsetsSpec : ChangeSpec := { name := "zoneOffsets", fn := fun _ => fun
  | [d1, d2] => { results := [.lit (.bool true)], args := [d1, d2] }
  | _ => none }
def zoneOffsetsRow : OpenClaim := { program := "ytgobdpmkfdeljaagreat", sum := "05706f42b8aaa109168d959bd1b51114cd2d872ee830669e4a76ccc88929bcff", func := "tryst/trystlaw16.ZoneOffsets", spec := "zoneOffsets", inPlace := ["internal/bytealg.IndexByteString"], unfollowed := true, recurses := true, apart := false }
def ZoneOffsetsSaid : Prop := zoneOffsetsRow.holds Tryz.pinned (OpenSpec.ofChange zoneOffsetsSpec)

/-- ITS FALSE NEIGHBOUR: 'it returns false'. Refute it at one input. -/
def zoneOffsetsWrong : ChangeSpec := { name := "zoneOffsets", fn := fun _ => fun
  | [d1, d2] => { results := [.lit (.bool false)], args := [d1, d2] }
  | _ => none }
def ZoneOffsetsWrongFalsely : Prop := zoneOffsetsRow.holds Tryz.pinned (OpenSpec.ofChange zoneOffsetsWrong)

/-- 'trystlaw16.ZoneUTC': WHATEVER THE INPUT: true; the input reads as it did. -/
def zoneUTCSpec : ChangeSpec := { name := "zoneUTC", fn := fun _ => fun
  | [d1, d2] => { results := [.lit (.bool true)], args := [d1, d2] }
  | _ => none }
def zoneUTCRow : OpenClaim := { program := "ytgobdpmkfdeljaagreat", sum := "05706f42b8aaa109168d959bd1b51114cd2d872ee830669e4a76ccc88929bcff", func := "tryst/trystlaw16.ZoneUTC", spec := "zoneUTC", inPlace := ["internal/bytealg.IndexByteString"], unfollowed := true, recurses := true, apart := false }
def ZoneUTCSaid : Prop := zoneUTCRow.holds Tryz.pinned (OpenSpec.ofChange zoneUTCSpec)

/-- ITS FALSE NEIGHBOUR: 'it returns false'. Refute it at one input. -/
def zoneUTCWrong : ChangeSpec := { name := "zoneUTC", fn := fun _ => fun
  | [d1, d2] => { results := [.lit (.bool false)], args := [d1, d2] }
  | _ => none }
def ZoneUTCWrongFalsely : Prop := zoneUTCRow.holds Tryz.pinned (OpenSpec.ofChange zoneUTCWrong)

/-- 'trystlaw16.ZoneBack': WHATEVER THE INPUT: true; the input reads as it did. -/
def zoneBackSpec : ChangeSpec := { name := "zoneBack", fn := fun _ => fun
  | [d1, d2] => { results := [.lit (.bool true)], args := [d1, d2] }
  | _ => none }
def zoneBackRow : OpenClaim := { program := "ytgobdpmkfdeljaagreat", sum := "05706f42b8aaa109168d959bd1b51114cd2d872ee830669e4a76ccc88929bcff", func := "tryst/trystlaw16.ZoneBack", spec := "zoneBack", inPlace := ["internal/bytealg.IndexByteString"], unfollowed := true, recurses := true, apart := false }
def ZoneBackSaid : Prop := zoneBackRow.holds Tryz.pinned (OpenSpec.ofChange zoneBackSpec)

/-- ITS FALSE NEIGHBOUR: 'it returns false'. Refute it at one input. -/
def zoneBackWrong : ChangeSpec := { name := "zoneBack", fn := fun _ => fun
  | [d1, d2] => { results := [.lit (.bool false)], args := [d1, d2] }
  | _ => none }
def ZoneBackWrongFalsely : Prop := zoneBackRow.holds Tryz.pinned (OpenSpec.ofChange zoneBackWrong)

/-- 'trystlaw17.SetMeans': WHATEVER THE INPUT: true; the input reads as it did. -/
def setMeansSpec : ChangeSpec := { name := "setMeans", fn := fun _ => fun
  | [d1, d2, d3, d4, d5] => { results := [.lit (.bool true)], args := [d1, d2, d3, d4, d5] }
  | _ => none }
def setMeansRow : OpenClaim := { program := "ytgobdpmkfdeljaagreat", sum := "05706f42b8aaa109168d959bd1b51114cd2d872ee830669e4a76ccc88929bcff", func := "tryst/trystlaw17.SetMeans", spec := "setMeans", inPlace := ["internal/bytealg.IndexByteString"], unfollowed := true, recurses := true, apart := false }
def SetMeansSaid : Prop := setMeansRow.holds Tryz.pinned (OpenSpec.ofChange setMeansSpec)

/-- ITS FALSE NEIGHBOUR: 'it returns false'. Refute it at one input. -/
def setMeansWrong : ChangeSpec := { name := "setMeans", fn := fun _ => fun
  | [d1, d2, d3, d4, d5] => { results := [.lit (.bool false)], args := [d1, d2, d3, d4, d5] }
  | _ => none }
def SetMeansWrongFalsely : Prop := setMeansRow.holds Tryz.pinned (OpenSpec.ofChange setMeansWrong)

/-- 'trystlaw17.SetHas': WHATEVER THE INPUT: true; the input reads as it did. -/
def setHasSpec : ChangeSpec := { name := "setHas", fn := fun _ => fun
  | [d1, d2, d3, d4] => { results := [.lit (.bool true)], args := [d1, d2, d3, d4] }
  | _ => none }
def setHasRow : OpenClaim := { program := "ytgobdpmkfdeljaagreat", sum := "05706f42b8aaa109168d959bd1b51114cd2d872ee830669e4a76ccc88929bcff", func := "tryst/trystlaw17.SetHas", spec := "setHas", inPlace := ["internal/bytealg.IndexByteString"], unfollowed := true, recurses := true, apart := false }
def SetHasSaid : Prop := setHasRow.holds Tryz.pinned (OpenSpec.ofChange setHasSpec)

/-- ITS FALSE NEIGHBOUR: 'it returns false'. Refute it at one input. -/
def setHasWrong : ChangeSpec := { name := "setHas", fn := fun _ => fun
  | [d1, d2, d3, d4] => { results := [.lit (.bool false)], args := [d1, d2, d3, d4] }
  | _ => none }
def SetHasWrongFalsely : Prop := setHasRow.holds Tryz.pinned (OpenSpec.ofChange setHasWrong)

/-- 'trystlaw17.SetForms': WHATEVER THE INPUT: true; the input reads as it did. -/
def setFormsSpec : ChangeSpec := { name := "setForms", fn := fun _ => fun
  | [d1, d2] => { results := [.lit (.bool true)], args := [d1, d2] }
  | _ => none }
def setFormsRow : OpenClaim := { program := "ytgobdpmkfdeljaagreat", sum := "05706f42b8aaa109168d959bd1b51114cd2d872ee830669e4a76ccc88929bcff", func := "tryst/trystlaw17.SetForms", spec := "setForms", inPlace := ["internal/bytealg.IndexByteString"], unfollowed := true, recurses := true, apart := false }
def SetFormsSaid : Prop := setFormsRow.holds Tryz.pinned (OpenSpec.ofChange setFormsSpec)

/-- ITS FALSE NEIGHBOUR: 'it returns false'. Refute it at one input. -/
def setFormsWrong : ChangeSpec := { name := "setForms", fn := fun _ => fun
  | [d1, d2] => { results := [.lit (.bool false)], args := [d1, d2] }
  | _ => none }
def SetFormsWrongFalsely : Prop := setFormsRow.holds Tryz.pinned (OpenSpec.ofChange setFormsWrong)

/-- 'trystlaw17.SetClock': WHATEVER THE INPUT: true; the input reads as it did. -/
def setClockSpec : ChangeSpec := { name := "setClock", fn := fun _ => fun
  | [d1, d2, d3] => { results := [.lit (.bool true)], args := [d1, d2, d3] }
  | _ => none }
def setClockRow : OpenClaim := { program := "ytgobdpmkfdeljaagreat", sum := "05706f42b8aaa109168d959bd1b51114cd2d872ee830669e4a76ccc88929bcff", func := "tryst/trystlaw17.SetClock", spec := "setClock", inPlace := ["internal/bytealg.IndexByteString"], unfollowed := true, recurses := true, apart := false }
def SetClockSaid : Prop := setClockRow.holds Tryz.pinned (OpenSpec.ofChange setClockSpec)

/-- ITS FALSE NEIGHBOUR: 'it returns false'. Refute it at one input. -/
def setClockWrong : ChangeSpec := { name := "setClock", fn := fun _ => fun
  | [d1, d2, d3] => { results := [.lit (.bool false)], args := [d1, d2, d3] }
  | _ => none }
def SetClockWrongFalsely : Prop := setClockRow.holds Tryz.pinned (OpenSpec.ofChange setClockWrong)

/- THE SECOND FORM. 'bulk': how many values and letters a reading holds, each counted each time it is reached (what is shared counts as often as it is met; a slice's spare places count too). A statement '..UptoSaid' is the law's where the arguments, and the package variables that the reading takes, are together of bulk at most 1048576: NARROWER than '..Said'. Prove '..Said' where nothing that the law and all that it calls make is longer than what came in: it says more and counts as full. Else prove '..UptoSaid'. A law counts once. -/
mutual
def uptoBulk {H : Type} : DataW H → Nat
  | .lit (.string bytes) => bytes.length + 1
  | .lit _ => 1
  | .nil => 1
  | .ptr d => uptoBulk d + 1
  | .slice elems spare => uptoBulkAll elems + uptoBulkAll spare + 1
  | .agg parts => uptoBulkAll parts + 1
  | .iface _ d => uptoBulk d + 1
  | .map entries => uptoBulkEntries entries + 1
  | .held _ => 1
def uptoBulkAll {H : Type} : List (DataW H) → Nat
  | [] => 0
  | d :: r => uptoBulk d + uptoBulkAll r
def uptoBulkEntries {H : Type} : List (Lit × DataW H) → Nat
  | [] => 0
  | x :: r => uptoBulkEntry x + uptoBulkEntries r
def uptoBulkEntry {H : Type} : Lit × DataW H → Nat
  | (.string bytes, d) => bytes.length + uptoBulk d + 1
  | (_, d) => uptoBulk d + 1
 end
def uptoSmall : (H : Type) → List (DataW H) → Bool := fun _ ds => decide (uptoBulkAll ds ≤ 1048576)
def OpenSpec.upto (s : _root_.Go.ChangeSpec) : _root_.Go.OpenSpec := { _root_.Go.OpenSpec.ofChange s with cond := some uptoSmall }

/-- 'trystlaw16.ZoneOffsets', WHERE WHAT IT READS IS OF BULK AT MOST 1048576: true; the input reads as it did. -/
def zoneOffsetsUptoRow : OpenClaim := { program := "ytgobdpmkfdeljaagreat", sum := "05706f42b8aaa109168d959bd1b51114cd2d872ee830669e4a76ccc88929bcff", func := "tryst/trystlaw16.ZoneOffsets", spec := "zoneOffsets", inPlace := ["internal/bytealg.IndexByteString"], unfollowed := true, recurses := true, apart := false, narrowed := true }
def ZoneOffsetsUptoSaid : Prop := zoneOffsetsUptoRow.holds Tryz.pinned (OpenSpec.upto zoneOffsetsSpec)

/-- 'trystlaw16.ZoneUTC', WHERE WHAT IT READS IS OF BULK AT MOST 1048576: true; the input reads as it did. -/
def zoneUTCUptoRow : OpenClaim := { program := "ytgobdpmkfdeljaagreat", sum := "05706f42b8aaa109168d959bd1b51114cd2d872ee830669e4a76ccc88929bcff", func := "tryst/trystlaw16.ZoneUTC", spec := "zoneUTC", inPlace := ["internal/bytealg.IndexByteString"], unfollowed := true, recurses := true, apart := false, narrowed := true }
def ZoneUTCUptoSaid : Prop := zoneUTCUptoRow.holds Tryz.pinned (OpenSpec.upto zoneUTCSpec)

/-- 'trystlaw16.ZoneBack', WHERE WHAT IT READS IS OF BULK AT MOST 1048576: true; the input reads as it did. -/
def zoneBackUptoRow : OpenClaim := { program := "ytgobdpmkfdeljaagreat", sum := "05706f42b8aaa109168d959bd1b51114cd2d872ee830669e4a76ccc88929bcff", func := "tryst/trystlaw16.ZoneBack", spec := "zoneBack", inPlace := ["internal/bytealg.IndexByteString"], unfollowed := true, recurses := true, apart := false, narrowed := true }
def ZoneBackUptoSaid : Prop := zoneBackUptoRow.holds Tryz.pinned (OpenSpec.upto zoneBackSpec)

/-- 'trystlaw17.SetMeans', WHERE WHAT IT READS IS OF BULK AT MOST 1048576: true; the input reads as it did. -/
def setMeansUptoRow : OpenClaim := { program := "ytgobdpmkfdeljaagreat", sum := "05706f42b8aaa109168d959bd1b51114cd2d872ee830669e4a76ccc88929bcff", func := "tryst/trystlaw17.SetMeans", spec := "setMeans", inPlace := ["internal/bytealg.IndexByteString"], unfollowed := true, recurses := true, apart := false, narrowed := true }
def SetMeansUptoSaid : Prop := setMeansUptoRow.holds Tryz.pinned (OpenSpec.upto setMeansSpec)

/-- 'trystlaw17.SetHas', WHERE WHAT IT READS IS OF BULK AT MOST 1048576: true; the input reads as it did. -/
def setHasUptoRow : OpenClaim := { program := "ytgobdpmkfdeljaagreat", sum := "05706f42b8aaa109168d959bd1b51114cd2d872ee830669e4a76ccc88929bcff", func := "tryst/trystlaw17.SetHas", spec := "setHas", inPlace := ["internal/bytealg.IndexByteString"], unfollowed := true, recurses := true, apart := false, narrowed := true }
def SetHasUptoSaid : Prop := setHasUptoRow.holds Tryz.pinned (OpenSpec.upto setHasSpec)

/-- 'trystlaw17.SetForms', WHERE WHAT IT READS IS OF BULK AT MOST 1048576: true; the input reads as it did. -/
def setFormsUptoRow : OpenClaim := { program := "ytgobdpmkfdeljaagreat", sum := "05706f42b8aaa109168d959bd1b51114cd2d872ee830669e4a76ccc88929bcff", func := "tryst/trystlaw17.SetForms", spec := "setForms", inPlace := ["internal/bytealg.IndexByteString"], unfollowed := true, recurses := true, apart := false, narrowed := true }
def SetFormsUptoSaid : Prop := setFormsUptoRow.holds Tryz.pinned (OpenSpec.upto setFormsSpec)

/-- 'trystlaw17.SetClock', WHERE WHAT IT READS IS OF BULK AT MOST 1048576: true; the input reads as it did. -/
def setClockUptoRow : OpenClaim := { program := "ytgobdpmkfdeljaagreat", sum := "05706f42b8aaa109168d959bd1b51114cd2d872ee830669e4a76ccc88929bcff", func := "tryst/trystlaw17.SetClock", spec := "setClock", inPlace := ["internal/bytealg.IndexByteString"], unfollowed := true, recurses := true, apart := false, narrowed := true }
def SetClockUptoSaid : Prop := setClockUptoRow.holds Tryz.pinned (OpenSpec.upto setClockSpec)

end Rows
end Go.Proofs.YtgobdpmkfdeljaaGreat
