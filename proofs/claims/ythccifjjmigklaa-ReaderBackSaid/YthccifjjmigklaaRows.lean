/-
  No cell of these rows narrows 'for every input' (looked for: loops, veiled, ifaces, maps, wideKeys, modest, calm, conditions, laid).
  DERIVED. THE GIVEN ROWS OF THIS SEAT. 5 by the template 'for every input the law returns true; each argument reads behind the call as it read before'; 0 by the template 'total and deterministic' (their statements: YthccifjjmigklaaTotals.lean).
  GIVEN WITH THE SEED: the statements are not yours to turn. If you find one false, say at which input.
  Laid BY PROGRAM, IN A SANDBOX (cutbox-rows.mjs): the forced cells as the released guide's own fill.sh prints them over the translation 504150b9d859343a… (all of the seat's roots in one cut). By AI agents, Wed Nov 11 2026. No macro, syntax, notation, axiom, sorry.
-/
import Derived.Test.YthccifjjmigklaaChecked
import GoSem.Claim
import GoSem.ClaimJoined
import GoSem.ClaimMapViews
import Derived.JoinedTies
import Derived.KernelRfl
namespace Go.Proofs.Ythccifjjmigklaa
/- THE CELL 'sum', in the pinned program and in every row, IS THE sha256 OF THE DUMP (.gsa) THAT YthccifjjmigklaaProg.lean LOADS. Nothing in Lean hashes anything: it is a label: what it is worth is what the hold of that sum in a sandbox is worth. -/
noncomputable def Try.pinned : Pinned := { name := "ythccifjjmigklaa", sum := "504150b9d859343ae49f8c8074de29e65be0362897165a248ff5c33014775b49", checked := Try.checked }
namespace Rows
def none {H : Type} : Left H := { results := [], args := [] }

/-- 'spinetlaw07.ReaderNoughts': WHATEVER THE INPUT: true; the input reads as it did. -/
def readerNoughtsSpec : ChangeSpec := { name := "readerNoughts", fn := fun _ => fun
  | [d1, d2, d3] => { results := [.lit (.bool true)], args := [d1, d2, d3] }
  | _ => none }
def readerNoughtsRow : OpenClaim := { program := "ythccifjjmigklaa", sum := "504150b9d859343ae49f8c8074de29e65be0362897165a248ff5c33014775b49", func := "spinet/spinetlaw07.ReaderNoughts", spec := "readerNoughts", apart := false }
def ReaderNoughtsSaid : Prop := readerNoughtsRow.holds Try.pinned (OpenSpec.ofChange readerNoughtsSpec)

/-- ITS FALSE NEIGHBOUR: 'it returns false'. Refute it at one input. -/
def readerNoughtsWrong : ChangeSpec := { name := "readerNoughts", fn := fun _ => fun
  | [d1, d2, d3] => { results := [.lit (.bool false)], args := [d1, d2, d3] }
  | _ => none }
def ReaderNoughtsWrongFalsely : Prop := readerNoughtsRow.holds Try.pinned (OpenSpec.ofChange readerNoughtsWrong)

/-- 'spinetlaw07.ReaderRaws': WHATEVER THE INPUT: true; the input reads as it did. -/
def readerRawsSpec : ChangeSpec := { name := "readerRaws", fn := fun _ => fun
  | [d1, d2, d3] => { results := [.lit (.bool true)], args := [d1, d2, d3] }
  | _ => none }
def readerRawsRow : OpenClaim := { program := "ythccifjjmigklaa", sum := "504150b9d859343ae49f8c8074de29e65be0362897165a248ff5c33014775b49", func := "spinet/spinetlaw07.ReaderRaws", spec := "readerRaws", apart := false }
def ReaderRawsSaid : Prop := readerRawsRow.holds Try.pinned (OpenSpec.ofChange readerRawsSpec)

/-- ITS FALSE NEIGHBOUR: 'it returns false'. Refute it at one input. -/
def readerRawsWrong : ChangeSpec := { name := "readerRaws", fn := fun _ => fun
  | [d1, d2, d3] => { results := [.lit (.bool false)], args := [d1, d2, d3] }
  | _ => none }
def ReaderRawsWrongFalsely : Prop := readerRawsRow.holds Try.pinned (OpenSpec.ofChange readerRawsWrong)

/-- 'spinetlaw07.ReaderPlays': WHATEVER THE INPUT: true; the input reads as it did. -/
def readerPlaysSpec : ChangeSpec := { name := "readerPlays", fn := fun _ => fun
  | [d1, d2] => { results := [.lit (.bool true)], args := [d1, d2] }
  | _ => none }
def readerPlaysRow : OpenClaim := { program := "ythccifjjmigklaa", sum := "504150b9d859343ae49f8c8074de29e65be0362897165a248ff5c33014775b49", func := "spinet/spinetlaw07.ReaderPlays", spec := "readerPlays", apart := false }
def ReaderPlaysSaid : Prop := readerPlaysRow.holds Try.pinned (OpenSpec.ofChange readerPlaysSpec)

/-- ITS FALSE NEIGHBOUR: 'it returns false'. Refute it at one input. -/
def readerPlaysWrong : ChangeSpec := { name := "readerPlays", fn := fun _ => fun
  | [d1, d2] => { results := [.lit (.bool false)], args := [d1, d2] }
  | _ => none }
def ReaderPlaysWrongFalsely : Prop := readerPlaysRow.holds Try.pinned (OpenSpec.ofChange readerPlaysWrong)

/-- 'spinetlaw07.ReaderOwn': WHATEVER THE INPUT: true; the input reads as it did. -/
def readerOwnSpec : ChangeSpec := { name := "readerOwn", fn := fun _ => fun
  | [d1, d2] => { results := [.lit (.bool true)], args := [d1, d2] }
  | _ => none }
def readerOwnRow : OpenClaim := { program := "ythccifjjmigklaa", sum := "504150b9d859343ae49f8c8074de29e65be0362897165a248ff5c33014775b49", func := "spinet/spinetlaw07.ReaderOwn", spec := "readerOwn", apart := false }
def ReaderOwnSaid : Prop := readerOwnRow.holds Try.pinned (OpenSpec.ofChange readerOwnSpec)

/-- ITS FALSE NEIGHBOUR: 'it returns false'. Refute it at one input. -/
def readerOwnWrong : ChangeSpec := { name := "readerOwn", fn := fun _ => fun
  | [d1, d2] => { results := [.lit (.bool false)], args := [d1, d2] }
  | _ => none }
def ReaderOwnWrongFalsely : Prop := readerOwnRow.holds Try.pinned (OpenSpec.ofChange readerOwnWrong)

/-- 'spinetlaw07.ReaderBack': WHATEVER THE INPUT: true; the input reads as it did. -/
def readerBackSpec : ChangeSpec := { name := "readerBack", fn := fun _ => fun
  | [d1, d2] => { results := [.lit (.bool true)], args := [d1, d2] }
  | _ => none }
def readerBackRow : OpenClaim := { program := "ythccifjjmigklaa", sum := "504150b9d859343ae49f8c8074de29e65be0362897165a248ff5c33014775b49", func := "spinet/spinetlaw07.ReaderBack", spec := "readerBack", apart := false }
def ReaderBackSaid : Prop := readerBackRow.holds Try.pinned (OpenSpec.ofChange readerBackSpec)

/-- ITS FALSE NEIGHBOUR: 'it returns false'. Refute it at one input. -/
def readerBackWrong : ChangeSpec := { name := "readerBack", fn := fun _ => fun
  | [d1, d2] => { results := [.lit (.bool false)], args := [d1, d2] }
  | _ => none }
def ReaderBackWrongFalsely : Prop := readerBackRow.holds Try.pinned (OpenSpec.ofChange readerBackWrong)

/- THE SECOND FORM. 'bulk': how many values and letters a reading holds, each counted each time it is reached (what is shared counts as often as it is met; a slice's spare places count too). A statement '..UptoSaid' is the law's where the arguments, and the package variables that the reading takes, are together of bulk at most 1048576: NARROWER than '..Said'. Prove '..Said' where nothing that the law and all that it calls make is longer than what came in: it says more and counts as full. Else prove '..UptoSaid'. A law counts once. -/
mutual
def uptoBulk {H : Type} : DataW H → Nat
  | .lit (.string bytes) => bytes.length + 1
  | .lit _ => 1
  | .nil => 1
  | .ptr d => uptoBulk d + 1
  | .slice elems spare => uptoBulkAll elems + uptoBulkAll spare + 1
  | .agg parts => uptoBulkAll parts + 1
  | .iface _ d => uptoBulk d + 1
  | .map entries => uptoBulkEntries entries + 1
  | .held _ => 1
def uptoBulkAll {H : Type} : List (DataW H) → Nat
  | [] => 0
  | d :: r => uptoBulk d + uptoBulkAll r
def uptoBulkEntries {H : Type} : List (Lit × DataW H) → Nat
  | [] => 0
  | x :: r => uptoBulkEntry x + uptoBulkEntries r
def uptoBulkEntry {H : Type} : Lit × DataW H → Nat
  | (.string bytes, d) => bytes.length + uptoBulk d + 1
  | (_, d) => uptoBulk d + 1
 end
def uptoSmall : (H : Type) → List (DataW H) → Bool := fun _ ds => decide (uptoBulkAll ds ≤ 1048576)
def OpenSpec.upto (s : _root_.Go.ChangeSpec) : _root_.Go.OpenSpec := { _root_.Go.OpenSpec.ofChange s with cond := some uptoSmall }

/-- 'spinetlaw07.ReaderNoughts', WHERE WHAT IT READS IS OF BULK AT MOST 1048576: true; the input reads as it did. -/
def readerNoughtsUptoRow : OpenClaim := { program := "ythccifjjmigklaa", sum := "504150b9d859343ae49f8c8074de29e65be0362897165a248ff5c33014775b49", func := "spinet/spinetlaw07.ReaderNoughts", spec := "readerNoughts", apart := false, narrowed := true }
def ReaderNoughtsUptoSaid : Prop := readerNoughtsUptoRow.holds Try.pinned (OpenSpec.upto readerNoughtsSpec)

/-- 'spinetlaw07.ReaderRaws', WHERE WHAT IT READS IS OF BULK AT MOST 1048576: true; the input reads as it did. -/
def readerRawsUptoRow : OpenClaim := { program := "ythccifjjmigklaa", sum := "504150b9d859343ae49f8c8074de29e65be0362897165a248ff5c33014775b49", func := "spinet/spinetlaw07.ReaderRaws", spec := "readerRaws", apart := false, narrowed := true }
def ReaderRawsUptoSaid : Prop := readerRawsUptoRow.holds Try.pinned (OpenSpec.upto readerRawsSpec)

/-- 'spinetlaw07.ReaderPlays', WHERE WHAT IT READS IS OF BULK AT MOST 1048576: true; the input reads as it did. -/
def readerPlaysUptoRow : OpenClaim := { program := "ythccifjjmigklaa", sum := "504150b9d859343ae49f8c8074de29e65be0362897165a248ff5c33014775b49", func := "spinet/spinetlaw07.ReaderPlays", spec := "readerPlays", apart := false, narrowed := true }
def ReaderPlaysUptoSaid : Prop := readerPlaysUptoRow.holds Try.pinned (OpenSpec.upto readerPlaysSpec)

/-- 'spinetlaw07.ReaderOwn', WHERE WHAT IT READS IS OF BULK AT MOST 1048576: true; the input reads as it did. -/
def readerOwnUptoRow : OpenClaim := { program := "ythccifjjmigklaa", sum := "504150b9d859343ae49f8c8074de29e65be0362897165a248ff5c33014775b49", func := "spinet/spinetlaw07.ReaderOwn", spec := "readerOwn", apart := false, narrowed := true }
def ReaderOwnUptoSaid : Prop := readerOwnUptoRow.holds Try.pinned (OpenSpec.upto readerOwnSpec)

/-- 'spinetlaw07.ReaderBack', WHERE WHAT IT READS IS OF BULK AT MOST 1048576: true; the input reads as it did. -/
def readerBackUptoRow : OpenClaim := { program := "ythccifjjmigklaa", sum := "504150b9d859343ae49f8c8074de29e65be0362897165a248ff5c33014775b49", func := "spinet/spinetlaw07.ReaderBack", spec := "readerBack", apart := false, narrowed := true }
def ReaderBackUptoSaid : Prop := readerBackUptoRow.holds Try.pinned (OpenSpec.upto readerBackSpec)

end Rows
end Go.Proofs.Ythccifjjmigklaa
