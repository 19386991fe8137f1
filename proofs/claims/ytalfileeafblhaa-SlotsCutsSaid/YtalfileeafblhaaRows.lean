/-
  No cell of these rows narrows 'for every input' (looked for: loops, veiled, ifaces, maps, wideKeys, modest, calm, conditions, laid).
  DERIVED. THE GIVEN ROWS OF THIS SEAT. 7 by the template 'for every input the law returns true; each argument reads behind the call as it read before'; 0 by the template 'total and deterministic' (their statements: YtalfileeafblhaaTotals.lean).
  GIVEN WITH THE SEED: the statements are not yours to turn. If you find one false, say at which input.
  Laid BY PROGRAM, IN A SANDBOX (cutbox-rows.mjs): the forced cells as the released guide's own fill.sh prints them over the translation 74e12779f48bf365… (all of the seat's roots in one cut). By AI agents, Wed Nov 11 2026. No macro, syntax, notation, axiom, sorry.
-/
import Derived.Test.YtalfileeafblhaaChecked
import GoSem.Claim
import GoSem.ClaimJoined
import GoSem.ClaimMapViews
import Derived.JoinedTies
import Derived.KernelRfl
namespace Go.Proofs.Ytalfileeafblhaa
/- THE CELL 'sum', in the pinned program and in every row, IS THE sha256 OF THE DUMP (.gsa) THAT YtalfileeafblhaaProg.lean LOADS. Nothing in Lean hashes anything: it is a label: what it is worth is what the hold of that sum in a sandbox is worth. -/
noncomputable def Try.pinned : Pinned := { name := "ytalfileeafblhaa", sum := "74e12779f48bf3654eacae7d15aeff6a07f8d3dab513caf30086f6a1c04f8c5c", checked := Try.checked }
namespace Rows
def none {H : Type} : Left H := { results := [], args := [] }

/-- 'loamlaw7.SlotsTurns': WHATEVER THE INPUT: true; the input reads as it did. -/
def slotsTurnsSpec : ChangeSpec := { name := "slotsTurns", fn := fun _ => fun
  | [d1, d2] => { results := [.lit (.bool true)], args := [d1, d2] }
  | _ => none }
def slotsTurnsRow : OpenClaim := { program := "ytalfileeafblhaa", sum := "74e12779f48bf3654eacae7d15aeff6a07f8d3dab513caf30086f6a1c04f8c5c", func := "loam/loamlaw7.SlotsTurns", spec := "slotsTurns", unfollowed := true, recurses := true, plainKeys := false, apart := false }
def SlotsTurnsSaid : Prop := slotsTurnsRow.holds Try.pinned (OpenSpec.ofChange slotsTurnsSpec)

/-- ITS FALSE NEIGHBOUR: 'it returns false'. Refute it at one input. -/
def slotsTurnsWrong : ChangeSpec := { name := "slotsTurns", fn := fun _ => fun
  | [d1, d2] => { results := [.lit (.bool false)], args := [d1, d2] }
  | _ => none }
def SlotsTurnsWrongFalsely : Prop := slotsTurnsRow.holds Try.pinned (OpenSpec.ofChange slotsTurnsWrong)

/-- 'loamlaw7.SlotsShapes': WHATEVER THE INPUT: true; the input reads as it did. -/
def slotsShapesSpec : ChangeSpec := { name := "slotsShapes", fn := fun _ => fun
  | [d1, d2] => { results := [.lit (.bool true)], args := [d1, d2] }
  | _ => none }
def slotsShapesRow : OpenClaim := { program := "ytalfileeafblhaa", sum := "74e12779f48bf3654eacae7d15aeff6a07f8d3dab513caf30086f6a1c04f8c5c", func := "loam/loamlaw7.SlotsShapes", spec := "slotsShapes", unfollowed := true, recurses := true, plainKeys := false, apart := false }
def SlotsShapesSaid : Prop := slotsShapesRow.holds Try.pinned (OpenSpec.ofChange slotsShapesSpec)

/-- ITS FALSE NEIGHBOUR: 'it returns false'. Refute it at one input. -/
def slotsShapesWrong : ChangeSpec := { name := "slotsShapes", fn := fun _ => fun
  | [d1, d2] => { results := [.lit (.bool false)], args := [d1, d2] }
  | _ => none }
def SlotsShapesWrongFalsely : Prop := slotsShapesRow.holds Try.pinned (OpenSpec.ofChange slotsShapesWrong)

/-- 'loamlaw7.SlotsCuts': WHATEVER THE INPUT: true; the input reads as it did. -/
def slotsCutsSpec : ChangeSpec := { name := "slotsCuts", fn := fun _ => fun
  | [d1, d2, d3] => { results := [.lit (.bool true)], args := [d1, d2, d3] }
  | _ => none }
def slotsCutsRow : OpenClaim := { program := "ytalfileeafblhaa", sum := "74e12779f48bf3654eacae7d15aeff6a07f8d3dab513caf30086f6a1c04f8c5c", func := "loam/loamlaw7.SlotsCuts", spec := "slotsCuts", unfollowed := true, recurses := true, plainKeys := false, apart := false }
def SlotsCutsSaid : Prop := slotsCutsRow.holds Try.pinned (OpenSpec.ofChange slotsCutsSpec)

/-- ITS FALSE NEIGHBOUR: 'it returns false'. Refute it at one input. -/
def slotsCutsWrong : ChangeSpec := { name := "slotsCuts", fn := fun _ => fun
  | [d1, d2, d3] => { results := [.lit (.bool false)], args := [d1, d2, d3] }
  | _ => none }
def SlotsCutsWrongFalsely : Prop := slotsCutsRow.holds Try.pinned (OpenSpec.ofChange slotsCutsWrong)

/-- 'loamlaw7.SlotsBytes': WHATEVER THE INPUT: true; the input reads as it did. -/
def slotsBytesSpec : ChangeSpec := { name := "slotsBytes", fn := fun _ => fun
  | [d1, d2, d3, d4] => { results := [.lit (.bool true)], args := [d1, d2, d3, d4] }
  | _ => none }
def slotsBytesRow : OpenClaim := { program := "ytalfileeafblhaa", sum := "74e12779f48bf3654eacae7d15aeff6a07f8d3dab513caf30086f6a1c04f8c5c", func := "loam/loamlaw7.SlotsBytes", spec := "slotsBytes", unfollowed := true, recurses := true, plainKeys := false, apart := false }
def SlotsBytesSaid : Prop := slotsBytesRow.holds Try.pinned (OpenSpec.ofChange slotsBytesSpec)

/-- ITS FALSE NEIGHBOUR: 'it returns false'. Refute it at one input. -/
def slotsBytesWrong : ChangeSpec := { name := "slotsBytes", fn := fun _ => fun
  | [d1, d2, d3, d4] => { results := [.lit (.bool false)], args := [d1, d2, d3, d4] }
  | _ => none }
def SlotsBytesWrongFalsely : Prop := slotsBytesRow.holds Try.pinned (OpenSpec.ofChange slotsBytesWrong)

/-- 'loamlaw9.RingRooms': WHATEVER THE INPUT: true; the input reads as it did. -/
def ringRoomsSpec : ChangeSpec := { name := "ringRooms", fn := fun _ => fun
  | [d1, d2, d3] => { results := [.lit (.bool true)], args := [d1, d2, d3] }
  | _ => none }
def ringRoomsRow : OpenClaim := { program := "ytalfileeafblhaa", sum := "74e12779f48bf3654eacae7d15aeff6a07f8d3dab513caf30086f6a1c04f8c5c", func := "loam/loamlaw9.RingRooms", spec := "ringRooms", unfollowed := true, recurses := true, plainKeys := false, apart := false }
def RingRoomsSaid : Prop := ringRoomsRow.holds Try.pinned (OpenSpec.ofChange ringRoomsSpec)

/-- ITS FALSE NEIGHBOUR: 'it returns false'. Refute it at one input. -/
def ringRoomsWrong : ChangeSpec := { name := "ringRooms", fn := fun _ => fun
  | [d1, d2, d3] => { results := [.lit (.bool false)], args := [d1, d2, d3] }
  | _ => none }
def RingRoomsWrongFalsely : Prop := ringRoomsRow.holds Try.pinned (OpenSpec.ofChange ringRoomsWrong)

/-- 'loamlaw9.RingLasts': WHATEVER THE INPUT: true; the input reads as it did. -/
def ringLastsSpec : ChangeSpec := { name := "ringLasts", fn := fun _ => fun
  | [d1, d2] => { results := [.lit (.bool true)], args := [d1, d2] }
  | _ => none }
def ringLastsRow : OpenClaim := { program := "ytalfileeafblhaa", sum := "74e12779f48bf3654eacae7d15aeff6a07f8d3dab513caf30086f6a1c04f8c5c", func := "loam/loamlaw9.RingLasts", spec := "ringLasts", unfollowed := true, recurses := true, plainKeys := false, apart := false }
def RingLastsSaid : Prop := ringLastsRow.holds Try.pinned (OpenSpec.ofChange ringLastsSpec)

/-- ITS FALSE NEIGHBOUR: 'it returns false'. Refute it at one input. -/
def ringLastsWrong : ChangeSpec := { name := "ringLasts", fn := fun _ => fun
  | [d1, d2] => { results := [.lit (.bool false)], args := [d1, d2] }
  | _ => none }
def RingLastsWrongFalsely : Prop := ringLastsRow.holds Try.pinned (OpenSpec.ofChange ringLastsWrong)

/-- 'loamlaw9.RingBytes': WHATEVER THE INPUT: true; the input reads as it did. -/
def ringBytesSpec : ChangeSpec := { name := "ringBytes", fn := fun _ => fun
  | [d1, d2, d3, d4] => { results := [.lit (.bool true)], args := [d1, d2, d3, d4] }
  | _ => none }
def ringBytesRow : OpenClaim := { program := "ytalfileeafblhaa", sum := "74e12779f48bf3654eacae7d15aeff6a07f8d3dab513caf30086f6a1c04f8c5c", func := "loam/loamlaw9.RingBytes", spec := "ringBytes", unfollowed := true, recurses := true, plainKeys := false, apart := false }
def RingBytesSaid : Prop := ringBytesRow.holds Try.pinned (OpenSpec.ofChange ringBytesSpec)

/-- ITS FALSE NEIGHBOUR: 'it returns false'. Refute it at one input. -/
def ringBytesWrong : ChangeSpec := { name := "ringBytes", fn := fun _ => fun
  | [d1, d2, d3, d4] => { results := [.lit (.bool false)], args := [d1, d2, d3, d4] }
  | _ => none }
def RingBytesWrongFalsely : Prop := ringBytesRow.holds Try.pinned (OpenSpec.ofChange ringBytesWrong)

/- THE SECOND FORM. 'bulk': how many values and letters a reading holds, each counted each time it is reached (what is shared counts as often as it is met; a slice's spare places count too). A statement '..UptoSaid' is the law's where the arguments, and the package variables that the reading takes, are together of bulk at most 1048576: NARROWER than '..Said'. Prove '..Said' where nothing that the law and all that it calls make is longer than what came in: it says more and counts as full. Else prove '..UptoSaid'. A law counts once. -/
mutual
def uptoBulk {H : Type} : DataW H → Nat
  | .lit (.string bytes) => bytes.length + 1
  | .lit _ => 1
  | .nil => 1
  | .ptr d => uptoBulk d + 1
  | .slice elems spare => uptoBulkAll elems + uptoBulkAll spare + 1
  | .agg parts => uptoBulkAll parts + 1
  | .iface _ d => uptoBulk d + 1
  | .map entries => uptoBulkEntries entries + 1
  | .held _ => 1
def uptoBulkAll {H : Type} : List (DataW H) → Nat
  | [] => 0
  | d :: r => uptoBulk d + uptoBulkAll r
def uptoBulkEntries {H : Type} : List (Lit × DataW H) → Nat
  | [] => 0
  | x :: r => uptoBulkEntry x + uptoBulkEntries r
def uptoBulkEntry {H : Type} : Lit × DataW H → Nat
  | (.string bytes, d) => bytes.length + uptoBulk d + 1
  | (_, d) => uptoBulk d + 1
 end
def uptoSmall : (H : Type) → List (DataW H) → Bool := fun _ ds => decide (uptoBulkAll ds ≤ 1048576)
def OpenSpec.upto (s : _root_.Go.ChangeSpec) : _root_.Go.OpenSpec := { _root_.Go.OpenSpec.ofChange s with cond := some uptoSmall }

/-- 'loamlaw7.SlotsTurns', WHERE WHAT IT READS IS OF BULK AT MOST 1048576: true; the input reads as it did. -/
def slotsTurnsUptoRow : OpenClaim := { program := "ytalfileeafblhaa", sum := "74e12779f48bf3654eacae7d15aeff6a07f8d3dab513caf30086f6a1c04f8c5c", func := "loam/loamlaw7.SlotsTurns", spec := "slotsTurns", unfollowed := true, recurses := true, plainKeys := false, apart := false, narrowed := true }
def SlotsTurnsUptoSaid : Prop := slotsTurnsUptoRow.holds Try.pinned (OpenSpec.upto slotsTurnsSpec)

/-- 'loamlaw7.SlotsShapes', WHERE WHAT IT READS IS OF BULK AT MOST 1048576: true; the input reads as it did. -/
def slotsShapesUptoRow : OpenClaim := { program := "ytalfileeafblhaa", sum := "74e12779f48bf3654eacae7d15aeff6a07f8d3dab513caf30086f6a1c04f8c5c", func := "loam/loamlaw7.SlotsShapes", spec := "slotsShapes", unfollowed := true, recurses := true, plainKeys := false, apart := false, narrowed := true }
def SlotsShapesUptoSaid : Prop := slotsShapesUptoRow.holds Try.pinned (OpenSpec.upto slotsShapesSpec)

/-- 'loamlaw7.SlotsCuts', WHERE WHAT IT READS IS OF BULK AT MOST 1048576: true; the input reads as it did. -/
def slotsCutsUptoRow : OpenClaim := { program := "ytalfileeafblhaa", sum := "74e12779f48bf3654eacae7d15aeff6a07f8d3dab513caf30086f6a1c04f8c5c", func := "loam/loamlaw7.SlotsCuts", spec := "slotsCuts", unfollowed := true, recurses := true, plainKeys := false, apart := false, narrowed := true }
def SlotsCutsUptoSaid : Prop := slotsCutsUptoRow.holds Try.pinned (OpenSpec.upto slotsCutsSpec)

/-- 'loamlaw7.SlotsBytes', WHERE WHAT IT READS IS OF BULK AT MOST 1048576: true; the input reads as it did. -/
def slotsBytesUptoRow : OpenClaim := { program := "ytalfileeafblhaa", sum := "74e12779f48bf3654eacae7d15aeff6a07f8d3dab513caf30086f6a1c04f8c5c", func := "loam/loamlaw7.SlotsBytes", spec := "slotsBytes", unfollowed := true, recurses := true, plainKeys := false, apart := false, narrowed := true }
def SlotsBytesUptoSaid : Prop := slotsBytesUptoRow.holds Try.pinned (OpenSpec.upto slotsBytesSpec)

/-- 'loamlaw9.RingRooms', WHERE WHAT IT READS IS OF BULK AT MOST 1048576: true; the input reads as it did. -/
def ringRoomsUptoRow : OpenClaim := { program := "ytalfileeafblhaa", sum := "74e12779f48bf3654eacae7d15aeff6a07f8d3dab513caf30086f6a1c04f8c5c", func := "loam/loamlaw9.RingRooms", spec := "ringRooms", unfollowed := true, recurses := true, plainKeys := false, apart := false, narrowed := true }
def RingRoomsUptoSaid : Prop := ringRoomsUptoRow.holds Try.pinned (OpenSpec.upto ringRoomsSpec)

/-- 'loamlaw9.RingLasts', WHERE WHAT IT READS IS OF BULK AT MOST 1048576: true; the input reads as it did. -/
def ringLastsUptoRow : OpenClaim := { program := "ytalfileeafblhaa", sum := "74e12779f48bf3654eacae7d15aeff6a07f8d3dab513caf30086f6a1c04f8c5c", func := "loam/loamlaw9.RingLasts", spec := "ringLasts", unfollowed := true, recurses := true, plainKeys := false, apart := false, narrowed := true }
def RingLastsUptoSaid : Prop := ringLastsUptoRow.holds Try.pinned (OpenSpec.upto ringLastsSpec)

/-- 'loamlaw9.RingBytes', WHERE WHAT IT READS IS OF BULK AT MOST 1048576: true; the input reads as it did. -/
def ringBytesUptoRow : OpenClaim := { program := "ytalfileeafblhaa", sum := "74e12779f48bf3654eacae7d15aeff6a07f8d3dab513caf30086f6a1c04f8c5c", func := "loam/loamlaw9.RingBytes", spec := "ringBytes", unfollowed := true, recurses := true, plainKeys := false, apart := false, narrowed := true }
def RingBytesUptoSaid : Prop := ringBytesUptoRow.holds Try.pinned (OpenSpec.upto ringBytesSpec)

end Rows
end Go.Proofs.Ytalfileeafblhaa
