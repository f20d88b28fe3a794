/-
  No cell of these rows narrows 'for every input' (looked for: loops, veiled, ifaces, maps, wideKeys, modest, calm, conditions, laid).
  DERIVED. THE GIVEN ROWS OF THIS SEAT. 6 by the template 'for every input the law returns true; each argument reads behind the call as it read before'; 0 by the template 'total and deterministic' (their statements: YtjoomlcbniiekaaTotals.lean).
  GIVEN WITH THE SEED: the statements are not yours to turn. If you find one false, say at which input.
  Laid BY PROGRAM, IN A SANDBOX (cutbox-rows.mjs): the forced cells as the released guide's own fill.sh prints them over the translation aec0ac1f6a8d068a… (all of the seat's roots in one cut). By AI agents, Wed Nov 11 2026. No macro, syntax, notation, axiom, sorry.
-/
import Derived.Test.YtjoomlcbniiekaaChecked
import GoSem.Claim
import GoSem.ClaimJoined
import GoSem.ClaimMapViews
import Derived.JoinedTies
import Derived.KernelRfl
namespace Go.Proofs.Ytjoomlcbniiekaa
/- THE CELL 'sum', in the pinned program and in every row, IS THE sha256 OF THE DUMP (.gsa) THAT YtjoomlcbniiekaaProg.lean LOADS. Nothing in Lean hashes anything: it is a label: what it is worth is what the hold of that sum in a sandbox is worth. -/
noncomputable def Try.pinned : Pinned := { name := "ytjoomlcbniiekaa", sum := "aec0ac1f6a8d068a55c922a3359f9421fc886a52a9cc060d9f8f24b80d0c3e13", checked := Try.checked }
namespace Rows
def none {H : Type} : Left H := { results := [], args := [] }

/-- 'linhaylaw03.RatioTells': WHATEVER THE INPUT: true; the input reads as it did. -/
def ratioTellsSpec : ChangeSpec := { name := "ratioTells", fn := fun _ => fun
  | [d1, d2, d3, d4, d5, d6] => { results := [.lit (.bool true)], args := [d1, d2, d3, d4, d5, d6] }
  | _ => none }
def ratioTellsRow : OpenClaim := { program := "ytjoomlcbniiekaa", sum := "aec0ac1f6a8d068a55c922a3359f9421fc886a52a9cc060d9f8f24b80d0c3e13", func := "linhay/linhaylaw03.RatioTells", spec := "ratioTells", inPlace := ["math/bits.Add64"], unfollowed := true, recurses := true, named := ["math/bits.divideError", "math/bits.overflowError"], apart := false }
def RatioTellsSaid : Prop := ratioTellsRow.holds Try.pinned (OpenSpec.ofChange ratioTellsSpec)

/-- ITS FALSE NEIGHBOUR: 'it returns false'. Refute it at one input. -/
def ratioTellsWrong : ChangeSpec := { name := "ratioTells", fn := fun _ => fun
  | [d1, d2, d3, d4, d5, d6] => { results := [.lit (.bool false)], args := [d1, d2, d3, d4, d5, d6] }
  | _ => none }
def RatioTellsWrongFalsely : Prop := ratioTellsRow.holds Try.pinned (OpenSpec.ofChange ratioTellsWrong)

/-- 'linhaylaw03.RatioOrder': WHATEVER THE INPUT: true; the input reads as it did. -/
def ratioOrderSpec : ChangeSpec := { name := "ratioOrder", fn := fun _ => fun
  | [d1, d2, d3] => { results := [.lit (.bool true)], args := [d1, d2, d3] }
  | _ => none }
def ratioOrderRow : OpenClaim := { program := "ytjoomlcbniiekaa", sum := "aec0ac1f6a8d068a55c922a3359f9421fc886a52a9cc060d9f8f24b80d0c3e13", func := "linhay/linhaylaw03.RatioOrder", spec := "ratioOrder", inPlace := ["math/bits.Add64"], unfollowed := true, recurses := true, named := ["math/bits.divideError", "math/bits.overflowError"], apart := false }
def RatioOrderSaid : Prop := ratioOrderRow.holds Try.pinned (OpenSpec.ofChange ratioOrderSpec)

/-- ITS FALSE NEIGHBOUR: 'it returns false'. Refute it at one input. -/
def ratioOrderWrong : ChangeSpec := { name := "ratioOrder", fn := fun _ => fun
  | [d1, d2, d3] => { results := [.lit (.bool false)], args := [d1, d2, d3] }
  | _ => none }
def RatioOrderWrongFalsely : Prop := ratioOrderRow.holds Try.pinned (OpenSpec.ofChange ratioOrderWrong)

/-- 'linhaylaw03.RatioSame': WHATEVER THE INPUT: true; the input reads as it did. -/
def ratioSameSpec : ChangeSpec := { name := "ratioSame", fn := fun _ => fun
  | [d1, d2, d3, d4] => { results := [.lit (.bool true)], args := [d1, d2, d3, d4] }
  | _ => none }
def ratioSameRow : OpenClaim := { program := "ytjoomlcbniiekaa", sum := "aec0ac1f6a8d068a55c922a3359f9421fc886a52a9cc060d9f8f24b80d0c3e13", func := "linhay/linhaylaw03.RatioSame", spec := "ratioSame", inPlace := ["math/bits.Add64"], unfollowed := true, recurses := true, named := ["math/bits.divideError", "math/bits.overflowError"], apart := false }
def RatioSameSaid : Prop := ratioSameRow.holds Try.pinned (OpenSpec.ofChange ratioSameSpec)

/-- ITS FALSE NEIGHBOUR: 'it returns false'. Refute it at one input. -/
def ratioSameWrong : ChangeSpec := { name := "ratioSame", fn := fun _ => fun
  | [d1, d2, d3, d4] => { results := [.lit (.bool false)], args := [d1, d2, d3, d4] }
  | _ => none }
def RatioSameWrongFalsely : Prop := ratioSameRow.holds Try.pinned (OpenSpec.ofChange ratioSameWrong)

/-- 'linhaylaw03.RatioParts': WHATEVER THE INPUT: true; the input reads as it did. -/
def ratioPartsSpec : ChangeSpec := { name := "ratioParts", fn := fun _ => fun
  | [d1, d2, d3] => { results := [.lit (.bool true)], args := [d1, d2, d3] }
  | _ => none }
def ratioPartsRow : OpenClaim := { program := "ytjoomlcbniiekaa", sum := "aec0ac1f6a8d068a55c922a3359f9421fc886a52a9cc060d9f8f24b80d0c3e13", func := "linhay/linhaylaw03.RatioParts", spec := "ratioParts", inPlace := ["math/bits.Add64"], unfollowed := true, recurses := true, named := ["math/bits.divideError", "math/bits.overflowError"], apart := false }
def RatioPartsSaid : Prop := ratioPartsRow.holds Try.pinned (OpenSpec.ofChange ratioPartsSpec)

/-- ITS FALSE NEIGHBOUR: 'it returns false'. Refute it at one input. -/
def ratioPartsWrong : ChangeSpec := { name := "ratioParts", fn := fun _ => fun
  | [d1, d2, d3] => { results := [.lit (.bool false)], args := [d1, d2, d3] }
  | _ => none }
def RatioPartsWrongFalsely : Prop := ratioPartsRow.holds Try.pinned (OpenSpec.ofChange ratioPartsWrong)

/-- 'linhaylaw03.RatioLeast': WHATEVER THE INPUT: true; the input reads as it did. -/
def ratioLeastSpec : ChangeSpec := { name := "ratioLeast", fn := fun _ => fun
  | [d] => { results := [.lit (.bool true)], args := [d] }
  | _ => none }
def ratioLeastRow : OpenClaim := { program := "ytjoomlcbniiekaa", sum := "aec0ac1f6a8d068a55c922a3359f9421fc886a52a9cc060d9f8f24b80d0c3e13", func := "linhay/linhaylaw03.RatioLeast", spec := "ratioLeast", inPlace := ["math/bits.Add64"], unfollowed := true, recurses := true, named := ["math/bits.divideError", "math/bits.overflowError"], apart := false }
def RatioLeastSaid : Prop := ratioLeastRow.holds Try.pinned (OpenSpec.ofChange ratioLeastSpec)

/-- ITS FALSE NEIGHBOUR: 'it returns false'. Refute it at one input. -/
def ratioLeastWrong : ChangeSpec := { name := "ratioLeast", fn := fun _ => fun
  | [d] => { results := [.lit (.bool false)], args := [d] }
  | _ => none }
def RatioLeastWrongFalsely : Prop := ratioLeastRow.holds Try.pinned (OpenSpec.ofChange ratioLeastWrong)

/-- 'linhaylaw03.RatioRises': WHATEVER THE INPUT: true; the input reads as it did. -/
def ratioRisesSpec : ChangeSpec := { name := "ratioRises", fn := fun _ => fun
  | [d1, d2, d3, d4] => { results := [.lit (.bool true)], args := [d1, d2, d3, d4] }
  | _ => none }
def ratioRisesRow : OpenClaim := { program := "ytjoomlcbniiekaa", sum := "aec0ac1f6a8d068a55c922a3359f9421fc886a52a9cc060d9f8f24b80d0c3e13", func := "linhay/linhaylaw03.RatioRises", spec := "ratioRises", inPlace := ["math/bits.Add64"], unfollowed := true, recurses := true, named := ["math/bits.divideError", "math/bits.overflowError"], apart := false }
def RatioRisesSaid : Prop := ratioRisesRow.holds Try.pinned (OpenSpec.ofChange ratioRisesSpec)

/-- ITS FALSE NEIGHBOUR: 'it returns false'. Refute it at one input. -/
def ratioRisesWrong : ChangeSpec := { name := "ratioRises", fn := fun _ => fun
  | [d1, d2, d3, d4] => { results := [.lit (.bool false)], args := [d1, d2, d3, d4] }
  | _ => none }
def RatioRisesWrongFalsely : Prop := ratioRisesRow.holds Try.pinned (OpenSpec.ofChange ratioRisesWrong)

/- THE SECOND FORM. 'bulk': how many values and letters a reading holds, each counted each time it is reached (what is shared counts as often as it is met; a slice's spare places count too). A statement '..UptoSaid' is the law's where the arguments, and the package variables that the reading takes, are together of bulk at most 1048576: NARROWER than '..Said'. Prove '..Said' where nothing that the law and all that it calls make is longer than what came in: it says more and counts as full. Else prove '..UptoSaid'. A law counts once. -/
mutual
def uptoBulk {H : Type} : DataW H → Nat
  | .lit (.string bytes) => bytes.length + 1
  | .lit _ => 1
  | .nil => 1
  | .ptr d => uptoBulk d + 1
  | .slice elems spare => uptoBulkAll elems + uptoBulkAll spare + 1
  | .agg parts => uptoBulkAll parts + 1
  | .iface _ d => uptoBulk d + 1
  | .map entries => uptoBulkEntries entries + 1
  | .held _ => 1
def uptoBulkAll {H : Type} : List (DataW H) → Nat
  | [] => 0
  | d :: r => uptoBulk d + uptoBulkAll r
def uptoBulkEntries {H : Type} : List (Lit × DataW H) → Nat
  | [] => 0
  | x :: r => uptoBulkEntry x + uptoBulkEntries r
def uptoBulkEntry {H : Type} : Lit × DataW H → Nat
  | (.string bytes, d) => bytes.length + uptoBulk d + 1
  | (_, d) => uptoBulk d + 1
 end
def uptoSmall : (H : Type) → List (DataW H) → Bool := fun _ ds => decide (uptoBulkAll ds ≤ 1048576)
def OpenSpec.upto (s : _root_.Go.ChangeSpec) : _root_.Go.OpenSpec := { _root_.Go.OpenSpec.ofChange s with cond := some uptoSmall }

/-- 'linhaylaw03.RatioTells', WHERE WHAT IT READS IS OF BULK AT MOST 1048576: true; the input reads as it did. -/
def ratioTellsUptoRow : OpenClaim := { program := "ytjoomlcbniiekaa", sum := "aec0ac1f6a8d068a55c922a3359f9421fc886a52a9cc060d9f8f24b80d0c3e13", func := "linhay/linhaylaw03.RatioTells", spec := "ratioTells", inPlace := ["math/bits.Add64"], unfollowed := true, recurses := true, named := ["math/bits.divideError", "math/bits.overflowError"], apart := false, narrowed := true }
def RatioTellsUptoSaid : Prop := ratioTellsUptoRow.holds Try.pinned (OpenSpec.upto ratioTellsSpec)

/-- 'linhaylaw03.RatioOrder', WHERE WHAT IT READS IS OF BULK AT MOST 1048576: true; the input reads as it did. -/
def ratioOrderUptoRow : OpenClaim := { program := "ytjoomlcbniiekaa", sum := "aec0ac1f6a8d068a55c922a3359f9421fc886a52a9cc060d9f8f24b80d0c3e13", func := "linhay/linhaylaw03.RatioOrder", spec := "ratioOrder", inPlace := ["math/bits.Add64"], unfollowed := true, recurses := true, named := ["math/bits.divideError", "math/bits.overflowError"], apart := false, narrowed := true }
def RatioOrderUptoSaid : Prop := ratioOrderUptoRow.holds Try.pinned (OpenSpec.upto ratioOrderSpec)

/-- 'linhaylaw03.RatioSame', WHERE WHAT IT READS IS OF BULK AT MOST 1048576: true; the input reads as it did. -/
def ratioSameUptoRow : OpenClaim := { program := "ytjoomlcbniiekaa", sum := "aec0ac1f6a8d068a55c922a3359f9421fc886a52a9cc060d9f8f24b80d0c3e13", func := "linhay/linhaylaw03.RatioSame", spec := "ratioSame", inPlace := ["math/bits.Add64"], unfollowed := true, recurses := true, named := ["math/bits.divideError", "math/bits.overflowError"], apart := false, narrowed := true }
def RatioSameUptoSaid : Prop := ratioSameUptoRow.holds Try.pinned (OpenSpec.upto ratioSameSpec)

/-- 'linhaylaw03.RatioParts', WHERE WHAT IT READS IS OF BULK AT MOST 1048576: true; the input reads as it did. -/
def ratioPartsUptoRow : OpenClaim := { program := "ytjoomlcbniiekaa", sum := "aec0ac1f6a8d068a55c922a3359f9421fc886a52a9cc060d9f8f24b80d0c3e13", func := "linhay/linhaylaw03.RatioParts", spec := "ratioParts", inPlace := ["math/bits.Add64"], unfollowed := true, recurses := true, named := ["math/bits.divideError", "math/bits.overflowError"], apart := false, narrowed := true }
def RatioPartsUptoSaid : Prop := ratioPartsUptoRow.holds Try.pinned (OpenSpec.upto ratioPartsSpec)

/-- 'linhaylaw03.RatioLeast', WHERE WHAT IT READS IS OF BULK AT MOST 1048576: true; the input reads as it did. -/
def ratioLeastUptoRow : OpenClaim := { program := "ytjoomlcbniiekaa", sum := "aec0ac1f6a8d068a55c922a3359f9421fc886a52a9cc060d9f8f24b80d0c3e13", func := "linhay/linhaylaw03.RatioLeast", spec := "ratioLeast", inPlace := ["math/bits.Add64"], unfollowed := true, recurses := true, named := ["math/bits.divideError", "math/bits.overflowError"], apart := false, narrowed := true }
def RatioLeastUptoSaid : Prop := ratioLeastUptoRow.holds Try.pinned (OpenSpec.upto ratioLeastSpec)

/-- 'linhaylaw03.RatioRises', WHERE WHAT IT READS IS OF BULK AT MOST 1048576: true; the input reads as it did. -/
def ratioRisesUptoRow : OpenClaim := { program := "ytjoomlcbniiekaa", sum := "aec0ac1f6a8d068a55c922a3359f9421fc886a52a9cc060d9f8f24b80d0c3e13", func := "linhay/linhaylaw03.RatioRises", spec := "ratioRises", inPlace := ["math/bits.Add64"], unfollowed := true, recurses := true, named := ["math/bits.divideError", "math/bits.overflowError"], apart := false, narrowed := true }
def RatioRisesUptoSaid : Prop := ratioRisesUptoRow.holds Try.pinned (OpenSpec.upto ratioRisesSpec)

end Rows
end Go.Proofs.Ytjoomlcbniiekaa
