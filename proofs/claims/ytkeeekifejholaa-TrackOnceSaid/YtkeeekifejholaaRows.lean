/-
  No cell of these rows narrows 'for every input' (looked for: loops, veiled, ifaces, maps, wideKeys, modest, calm, conditions, laid).
  DERIVED. THE GIVEN ROWS OF THIS SEAT. 8 by the template 'for every input the law returns true; each argument reads behind the call as it read before'; 0 by the template 'total and deterministic' (their statements: YtkeeekifejholaaTotals.lean).
  GIVEN WITH THE SEED: the statements are not yours to turn. If you find one false, say at which input.
  Laid BY PROGRAM, IN A SANDBOX (cutbox-rows.mjs): the forced cells as the released guide's own fill.sh prints them over the translation fb83318771d3fb0a… (all of the seat's roots in one cut). By AI agents, Wed Nov 11 2026. No macro, syntax, notation, axiom, sorry.
-/
import Derived.Test.YtkeeekifejholaaChecked
import GoSem.Claim
import GoSem.ClaimJoined
import GoSem.ClaimMapViews
import Derived.JoinedTies
import Derived.KernelRfl
namespace Go.Proofs.Ytkeeekifejholaa
/- THE CELL 'sum', in the pinned program and in every row, IS THE sha256 OF THE DUMP (.gsa) THAT YtkeeekifejholaaProg.lean LOADS. Nothing in Lean hashes anything: it is a label: what it is worth is what the hold of that sum in a sandbox is worth. -/
noncomputable def Try.pinned : Pinned := { name := "ytkeeekifejholaa", sum := "fb83318771d3fb0ad56c36abb43df4b58ec13f5812d5d7ebdc3c784cf32cbbdb", checked := Try.checked }
namespace Rows
def none {H : Type} : Left H := { results := [], args := [] }

/-- 'caddislaw02.CodeOrders': WHATEVER THE INPUT: true; the input reads as it did. -/
def codeOrdersSpec : ChangeSpec := { name := "codeOrders", fn := fun _ => fun
  | [d1, d2] => { results := [.lit (.bool true)], args := [d1, d2] }
  | _ => none }
def codeOrdersRow : OpenClaim := { program := "ytkeeekifejholaa", sum := "fb83318771d3fb0ad56c36abb43df4b58ec13f5812d5d7ebdc3c784cf32cbbdb", func := "caddis/caddislaw02.CodeOrders", spec := "codeOrders", unfollowed := true, recurses := true, plainKeys := false, apart := false }
def CodeOrdersSaid : Prop := codeOrdersRow.holds Try.pinned (OpenSpec.ofChange codeOrdersSpec)

/-- ITS FALSE NEIGHBOUR: 'it returns false'. Refute it at one input. -/
def codeOrdersWrong : ChangeSpec := { name := "codeOrders", fn := fun _ => fun
  | [d1, d2] => { results := [.lit (.bool false)], args := [d1, d2] }
  | _ => none }
def CodeOrdersWrongFalsely : Prop := codeOrdersRow.holds Try.pinned (OpenSpec.ofChange codeOrdersWrong)

/-- 'caddislaw02.CodeJoins': WHATEVER THE INPUT: true; the input reads as it did. -/
def codeJoinsSpec : ChangeSpec := { name := "codeJoins", fn := fun _ => fun
  | [d] => { results := [.lit (.bool true)], args := [d] }
  | _ => none }
def codeJoinsRow : OpenClaim := { program := "ytkeeekifejholaa", sum := "fb83318771d3fb0ad56c36abb43df4b58ec13f5812d5d7ebdc3c784cf32cbbdb", func := "caddis/caddislaw02.CodeJoins", spec := "codeJoins", unfollowed := true, recurses := true, plainKeys := false, apart := false }
def CodeJoinsSaid : Prop := codeJoinsRow.holds Try.pinned (OpenSpec.ofChange codeJoinsSpec)

/-- ITS FALSE NEIGHBOUR: 'it returns false'. Refute it at one input. -/
def codeJoinsWrong : ChangeSpec := { name := "codeJoins", fn := fun _ => fun
  | [d] => { results := [.lit (.bool false)], args := [d] }
  | _ => none }
def CodeJoinsWrongFalsely : Prop := codeJoinsRow.holds Try.pinned (OpenSpec.ofChange codeJoinsWrong)

/-- 'caddislaw02.CodeApart': WHATEVER THE INPUT: true; the input reads as it did. -/
def codeApartSpec : ChangeSpec := { name := "codeApart", fn := fun _ => fun
  | [d1, d2] => { results := [.lit (.bool true)], args := [d1, d2] }
  | _ => none }
def codeApartRow : OpenClaim := { program := "ytkeeekifejholaa", sum := "fb83318771d3fb0ad56c36abb43df4b58ec13f5812d5d7ebdc3c784cf32cbbdb", func := "caddis/caddislaw02.CodeApart", spec := "codeApart", unfollowed := true, recurses := true, plainKeys := false, apart := false }
def CodeApartSaid : Prop := codeApartRow.holds Try.pinned (OpenSpec.ofChange codeApartSpec)

/-- ITS FALSE NEIGHBOUR: 'it returns false'. Refute it at one input. -/
def codeApartWrong : ChangeSpec := { name := "codeApart", fn := fun _ => fun
  | [d1, d2] => { results := [.lit (.bool false)], args := [d1, d2] }
  | _ => none }
def CodeApartWrongFalsely : Prop := codeApartRow.holds Try.pinned (OpenSpec.ofChange codeApartWrong)

/-- 'caddislaw02.CodeRows': WHATEVER THE INPUT: true; the input reads as it did. -/
def codeRowsSpec : ChangeSpec := { name := "codeRows", fn := fun _ => fun
  | [d1, d2] => { results := [.lit (.bool true)], args := [d1, d2] }
  | _ => none }
def codeRowsRow : OpenClaim := { program := "ytkeeekifejholaa", sum := "fb83318771d3fb0ad56c36abb43df4b58ec13f5812d5d7ebdc3c784cf32cbbdb", func := "caddis/caddislaw02.CodeRows", spec := "codeRows", unfollowed := true, recurses := true, plainKeys := false, apart := false }
def CodeRowsSaid : Prop := codeRowsRow.holds Try.pinned (OpenSpec.ofChange codeRowsSpec)

/-- ITS FALSE NEIGHBOUR: 'it returns false'. Refute it at one input. -/
def codeRowsWrong : ChangeSpec := { name := "codeRows", fn := fun _ => fun
  | [d1, d2] => { results := [.lit (.bool false)], args := [d1, d2] }
  | _ => none }
def CodeRowsWrongFalsely : Prop := codeRowsRow.holds Try.pinned (OpenSpec.ofChange codeRowsWrong)

/-- 'caddislaw02.CodeShort': WHATEVER THE INPUT: true; the input reads as it did. -/
def codeShortSpec : ChangeSpec := { name := "codeShort", fn := fun _ => fun
  | [d] => { results := [.lit (.bool true)], args := [d] }
  | _ => none }
def codeShortRow : OpenClaim := { program := "ytkeeekifejholaa", sum := "fb83318771d3fb0ad56c36abb43df4b58ec13f5812d5d7ebdc3c784cf32cbbdb", func := "caddis/caddislaw02.CodeShort", spec := "codeShort", unfollowed := true, recurses := true, plainKeys := false, apart := false }
def CodeShortSaid : Prop := codeShortRow.holds Try.pinned (OpenSpec.ofChange codeShortSpec)

/-- ITS FALSE NEIGHBOUR: 'it returns false'. Refute it at one input. -/
def codeShortWrong : ChangeSpec := { name := "codeShort", fn := fun _ => fun
  | [d] => { results := [.lit (.bool false)], args := [d] }
  | _ => none }
def CodeShortWrongFalsely : Prop := codeShortRow.holds Try.pinned (OpenSpec.ofChange codeShortWrong)

/-- 'caddislaw14.TrackOrder': WHATEVER THE INPUT: true; the input reads as it did. -/
def trackOrderSpec : ChangeSpec := { name := "trackOrder", fn := fun _ => fun
  | [d1, d2] => { results := [.lit (.bool true)], args := [d1, d2] }
  | _ => none }
def trackOrderRow : OpenClaim := { program := "ytkeeekifejholaa", sum := "fb83318771d3fb0ad56c36abb43df4b58ec13f5812d5d7ebdc3c784cf32cbbdb", func := "caddis/caddislaw14.TrackOrder", spec := "trackOrder", unfollowed := true, recurses := true, plainKeys := false, apart := false }
def TrackOrderSaid : Prop := trackOrderRow.holds Try.pinned (OpenSpec.ofChange trackOrderSpec)

/-- ITS FALSE NEIGHBOUR: 'it returns false'. Refute it at one input. -/
def trackOrderWrong : ChangeSpec := { name := "trackOrder", fn := fun _ => fun
  | [d1, d2] => { results := [.lit (.bool false)], args := [d1, d2] }
  | _ => none }
def TrackOrderWrongFalsely : Prop := trackOrderRow.holds Try.pinned (OpenSpec.ofChange trackOrderWrong)

/-- 'caddislaw14.TrackOnce': WHATEVER THE INPUT: true; the input reads as it did. -/
def trackOnceSpec : ChangeSpec := { name := "trackOnce", fn := fun _ => fun
  | [d1, d2] => { results := [.lit (.bool true)], args := [d1, d2] }
  | _ => none }
def trackOnceRow : OpenClaim := { program := "ytkeeekifejholaa", sum := "fb83318771d3fb0ad56c36abb43df4b58ec13f5812d5d7ebdc3c784cf32cbbdb", func := "caddis/caddislaw14.TrackOnce", spec := "trackOnce", unfollowed := true, recurses := true, plainKeys := false, apart := false }
def TrackOnceSaid : Prop := trackOnceRow.holds Try.pinned (OpenSpec.ofChange trackOnceSpec)

/-- ITS FALSE NEIGHBOUR: 'it returns false'. Refute it at one input. -/
def trackOnceWrong : ChangeSpec := { name := "trackOnce", fn := fun _ => fun
  | [d1, d2] => { results := [.lit (.bool false)], args := [d1, d2] }
  | _ => none }
def TrackOnceWrongFalsely : Prop := trackOnceRow.holds Try.pinned (OpenSpec.ofChange trackOnceWrong)

/-- 'caddislaw14.TrackCounts': WHATEVER THE INPUT: true; the input reads as it did. -/
def trackCountsSpec : ChangeSpec := { name := "trackCounts", fn := fun _ => fun
  | [d] => { results := [.lit (.bool true)], args := [d] }
  | _ => none }
def trackCountsRow : OpenClaim := { program := "ytkeeekifejholaa", sum := "fb83318771d3fb0ad56c36abb43df4b58ec13f5812d5d7ebdc3c784cf32cbbdb", func := "caddis/caddislaw14.TrackCounts", spec := "trackCounts", unfollowed := true, recurses := true, plainKeys := false, apart := false }
def TrackCountsSaid : Prop := trackCountsRow.holds Try.pinned (OpenSpec.ofChange trackCountsSpec)

/-- ITS FALSE NEIGHBOUR: 'it returns false'. Refute it at one input. -/
def trackCountsWrong : ChangeSpec := { name := "trackCounts", fn := fun _ => fun
  | [d] => { results := [.lit (.bool false)], args := [d] }
  | _ => none }
def TrackCountsWrongFalsely : Prop := trackCountsRow.holds Try.pinned (OpenSpec.ofChange trackCountsWrong)

/- THE SECOND FORM. 'bulk': how many values and letters a reading holds, each counted each time it is reached (what is shared counts as often as it is met; a slice's spare places count too). A statement '..UptoSaid' is the law's where the arguments, and the package variables that the reading takes, are together of bulk at most 1048576: NARROWER than '..Said'. Prove '..Said' where nothing that the law and all that it calls make is longer than what came in: it says more and counts as full. Else prove '..UptoSaid'. A law counts once. -/
mutual
def uptoBulk {H : Type} : DataW H → Nat
  | .lit (.string bytes) => bytes.length + 1
  | .lit _ => 1
  | .nil => 1
  | .ptr d => uptoBulk d + 1
  | .slice elems spare => uptoBulkAll elems + uptoBulkAll spare + 1
  | .agg parts => uptoBulkAll parts + 1
  | .iface _ d => uptoBulk d + 1
  | .map entries => uptoBulkEntries entries + 1
  | .held _ => 1
def uptoBulkAll {H : Type} : List (DataW H) → Nat
  | [] => 0
  | d :: r => uptoBulk d + uptoBulkAll r
def uptoBulkEntries {H : Type} : List (Lit × DataW H) → Nat
  | [] => 0
  | x :: r => uptoBulkEntry x + uptoBulkEntries r
def uptoBulkEntry {H : Type} : Lit × DataW H → Nat
  | (.string bytes, d) => bytes.length + uptoBulk d + 1
  | (_, d) => uptoBulk d + 1
 end
def uptoSmall : (H : Type) → List (DataW H) → Bool := fun _ ds => decide (uptoBulkAll ds ≤ 1048576)
def OpenSpec.upto (s : _root_.Go.ChangeSpec) : _root_.Go.OpenSpec := { _root_.Go.OpenSpec.ofChange s with cond := some uptoSmall }

/-- 'caddislaw02.CodeOrders', WHERE WHAT IT READS IS OF BULK AT MOST 1048576: true; the input reads as it did. -/
def codeOrdersUptoRow : OpenClaim := { program := "ytkeeekifejholaa", sum := "fb83318771d3fb0ad56c36abb43df4b58ec13f5812d5d7ebdc3c784cf32cbbdb", func := "caddis/caddislaw02.CodeOrders", spec := "codeOrders", unfollowed := true, recurses := true, plainKeys := false, apart := false, narrowed := true }
def CodeOrdersUptoSaid : Prop := codeOrdersUptoRow.holds Try.pinned (OpenSpec.upto codeOrdersSpec)

/-- 'caddislaw02.CodeJoins', WHERE WHAT IT READS IS OF BULK AT MOST 1048576: true; the input reads as it did. -/
def codeJoinsUptoRow : OpenClaim := { program := "ytkeeekifejholaa", sum := "fb83318771d3fb0ad56c36abb43df4b58ec13f5812d5d7ebdc3c784cf32cbbdb", func := "caddis/caddislaw02.CodeJoins", spec := "codeJoins", unfollowed := true, recurses := true, plainKeys := false, apart := false, narrowed := true }
def CodeJoinsUptoSaid : Prop := codeJoinsUptoRow.holds Try.pinned (OpenSpec.upto codeJoinsSpec)

/-- 'caddislaw02.CodeApart', WHERE WHAT IT READS IS OF BULK AT MOST 1048576: true; the input reads as it did. -/
def codeApartUptoRow : OpenClaim := { program := "ytkeeekifejholaa", sum := "fb83318771d3fb0ad56c36abb43df4b58ec13f5812d5d7ebdc3c784cf32cbbdb", func := "caddis/caddislaw02.CodeApart", spec := "codeApart", unfollowed := true, recurses := true, plainKeys := false, apart := false, narrowed := true }
def CodeApartUptoSaid : Prop := codeApartUptoRow.holds Try.pinned (OpenSpec.upto codeApartSpec)

/-- 'caddislaw02.CodeRows', WHERE WHAT IT READS IS OF BULK AT MOST 1048576: true; the input reads as it did. -/
def codeRowsUptoRow : OpenClaim := { program := "ytkeeekifejholaa", sum := "fb83318771d3fb0ad56c36abb43df4b58ec13f5812d5d7ebdc3c784cf32cbbdb", func := "caddis/caddislaw02.CodeRows", spec := "codeRows", unfollowed := true, recurses := true, plainKeys := false, apart := false, narrowed := true }
def CodeRowsUptoSaid : Prop := codeRowsUptoRow.holds Try.pinned (OpenSpec.upto codeRowsSpec)

/-- 'caddislaw02.CodeShort', WHERE WHAT IT READS IS OF BULK AT MOST 1048576: true; the input reads as it did. -/
def codeShortUptoRow : OpenClaim := { program := "ytkeeekifejholaa", sum := "fb83318771d3fb0ad56c36abb43df4b58ec13f5812d5d7ebdc3c784cf32cbbdb", func := "caddis/caddislaw02.CodeShort", spec := "codeShort", unfollowed := true, recurses := true, plainKeys := false, apart := false, narrowed := true }
def CodeShortUptoSaid : Prop := codeShortUptoRow.holds Try.pinned (OpenSpec.upto codeShortSpec)

/-- 'caddislaw14.TrackOrder', WHERE WHAT IT READS IS OF BULK AT MOST 1048576: true; the input reads as it did. -/
def trackOrderUptoRow : OpenClaim := { program := "ytkeeekifejholaa", sum := "fb83318771d3fb0ad56c36abb43df4b58ec13f5812d5d7ebdc3c784cf32cbbdb", func := "caddis/caddislaw14.TrackOrder", spec := "trackOrder", unfollowed := true, recurses := true, plainKeys := false, apart := false, narrowed := true }
def TrackOrderUptoSaid : Prop := trackOrderUptoRow.holds Try.pinned (OpenSpec.upto trackOrderSpec)

/-- 'caddislaw14.TrackOnce', WHERE WHAT IT READS IS OF BULK AT MOST 1048576: true; the input reads as it did. -/
def trackOnceUptoRow : OpenClaim := { program := "ytkeeekifejholaa", sum := "fb83318771d3fb0ad56c36abb43df4b58ec13f5812d5d7ebdc3c784cf32cbbdb", func := "caddis/caddislaw14.TrackOnce", spec := "trackOnce", unfollowed := true, recurses := true, plainKeys := false, apart := false, narrowed := true }
def TrackOnceUptoSaid : Prop := trackOnceUptoRow.holds Try.pinned (OpenSpec.upto trackOnceSpec)

/-- 'caddislaw14.TrackCounts', WHERE WHAT IT READS IS OF BULK AT MOST 1048576: true; the input reads as it did. -/
def trackCountsUptoRow : OpenClaim := { program := "ytkeeekifejholaa", sum := "fb83318771d3fb0ad56c36abb43df4b58ec13f5812d5d7ebdc3c784cf32cbbdb", func := "caddis/caddislaw14.TrackCounts", spec := "trackCounts", unfollowed := true, recurses := true, plainKeys := false, apart := false, narrowed := true }
def TrackCountsUptoSaid : Prop := trackCountsUptoRow.holds Try.pinned (OpenSpec.upto trackCountsSpec)

end Rows
end Go.Proofs.Ytkeeekifejholaa
