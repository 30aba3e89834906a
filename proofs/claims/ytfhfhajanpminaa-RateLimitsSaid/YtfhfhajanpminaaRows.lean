/-
  No cell of these rows narrows 'for every input' (looked for: loops, veiled, ifaces, maps, wideKeys, modest, calm, conditions, laid).
  DERIVED. THE GIVEN ROWS OF THIS SEAT. 5 by the template 'for every input the law returns true; each argument reads behind the call as it read before'; 0 by the template 'total and deterministic' (their statements: YtfhfhajanpminaaTotals.lean).
  GIVEN WITH THE SEED: the statements are not yours to turn. If you find one false, say at which input.
  Laid BY PROGRAM, IN A SANDBOX (cutbox-rows.mjs): the forced cells as the released guide's own fill.sh prints them over the translation f065b64e8cc79019… (all of the seat's roots in one cut). By AI agents, Wed Nov 11 2026. No macro, syntax, notation, axiom, sorry.
-/
import Derived.Test.YtfhfhajanpminaaChecked
import GoSem.Claim
import GoSem.ClaimJoined
import GoSem.ClaimMapViews
import Derived.JoinedTies
import Derived.KernelRfl
namespace Go.Proofs.Ytfhfhajanpminaa
/- THE CELL 'sum', in the pinned program and in every row, IS THE sha256 OF THE DUMP (.gsa) THAT YtfhfhajanpminaaProg.lean LOADS. Nothing in Lean hashes anything: it is a label: what it is worth is what the hold of that sum in a sandbox is worth. -/
noncomputable def Try.pinned : Pinned := { name := "ytfhfhajanpminaa", sum := "f065b64e8cc7901911fba33d7a8f526ef649ad5c2b684f2022c986db99949cb9", checked := Try.checked }
namespace Rows
def none {H : Type} : Left H := { results := [], args := [] }

/-- 'gemellaw03.RateLimits': WHATEVER THE INPUT: true; the input reads as it did. -/
def rateLimitsSpec : ChangeSpec := { name := "rateLimits", fn := fun _ => fun
  | [d1, d2] => { results := [.lit (.bool true)], args := [d1, d2] }
  | _ => none }
def rateLimitsRow : OpenClaim := { program := "ytfhfhajanpminaa", sum := "f065b64e8cc7901911fba33d7a8f526ef649ad5c2b684f2022c986db99949cb9", func := "gemel/gemellaw03.RateLimits", spec := "rateLimits", inPlace := ["math.Float64bits"], unfollowed := true, recurses := true, apart := false }
def RateLimitsSaid : Prop := rateLimitsRow.holds Try.pinned (OpenSpec.ofChange rateLimitsSpec)

/-- ITS FALSE NEIGHBOUR: 'it returns false'. Refute it at one input. -/
def rateLimitsWrong : ChangeSpec := { name := "rateLimits", fn := fun _ => fun
  | [d1, d2] => { results := [.lit (.bool false)], args := [d1, d2] }
  | _ => none }
def RateLimitsWrongFalsely : Prop := rateLimitsRow.holds Try.pinned (OpenSpec.ofChange rateLimitsWrong)

/-- 'gemellaw03.RateOrder': WHATEVER THE INPUT: true; the input reads as it did. -/
def rateOrderSpec : ChangeSpec := { name := "rateOrder", fn := fun _ => fun
  | [d1, d2, d3] => { results := [.lit (.bool true)], args := [d1, d2, d3] }
  | _ => none }
def rateOrderRow : OpenClaim := { program := "ytfhfhajanpminaa", sum := "f065b64e8cc7901911fba33d7a8f526ef649ad5c2b684f2022c986db99949cb9", func := "gemel/gemellaw03.RateOrder", spec := "rateOrder", inPlace := ["math.Float64bits"], unfollowed := true, recurses := true, apart := false }
def RateOrderSaid : Prop := rateOrderRow.holds Try.pinned (OpenSpec.ofChange rateOrderSpec)

/-- ITS FALSE NEIGHBOUR: 'it returns false'. Refute it at one input. -/
def rateOrderWrong : ChangeSpec := { name := "rateOrder", fn := fun _ => fun
  | [d1, d2, d3] => { results := [.lit (.bool false)], args := [d1, d2, d3] }
  | _ => none }
def RateOrderWrongFalsely : Prop := rateOrderRow.holds Try.pinned (OpenSpec.ofChange rateOrderWrong)

/-- 'gemellaw03.RateRises': WHATEVER THE INPUT: true; the input reads as it did. -/
def rateRisesSpec : ChangeSpec := { name := "rateRises", fn := fun _ => fun
  | [d1, d2] => { results := [.lit (.bool true)], args := [d1, d2] }
  | _ => none }
def rateRisesRow : OpenClaim := { program := "ytfhfhajanpminaa", sum := "f065b64e8cc7901911fba33d7a8f526ef649ad5c2b684f2022c986db99949cb9", func := "gemel/gemellaw03.RateRises", spec := "rateRises", inPlace := ["math.Float64bits"], unfollowed := true, recurses := true, apart := false }
def RateRisesSaid : Prop := rateRisesRow.holds Try.pinned (OpenSpec.ofChange rateRisesSpec)

/-- ITS FALSE NEIGHBOUR: 'it returns false'. Refute it at one input. -/
def rateRisesWrong : ChangeSpec := { name := "rateRises", fn := fun _ => fun
  | [d1, d2] => { results := [.lit (.bool false)], args := [d1, d2] }
  | _ => none }
def RateRisesWrongFalsely : Prop := rateRisesRow.holds Try.pinned (OpenSpec.ofChange rateRisesWrong)

/-- 'gemellaw03.RateCosts': WHATEVER THE INPUT: true; the input reads as it did. -/
def rateCostsSpec : ChangeSpec := { name := "rateCosts", fn := fun _ => fun
  | [d] => { results := [.lit (.bool true)], args := [d] }
  | _ => none }
def rateCostsRow : OpenClaim := { program := "ytfhfhajanpminaa", sum := "f065b64e8cc7901911fba33d7a8f526ef649ad5c2b684f2022c986db99949cb9", func := "gemel/gemellaw03.RateCosts", spec := "rateCosts", inPlace := ["math.Float64bits", "math.Float64frombits"], unfollowed := true, recurses := true, apart := false }
def RateCostsSaid : Prop := rateCostsRow.holds Try.pinned (OpenSpec.ofChange rateCostsSpec)

/-- ITS FALSE NEIGHBOUR: 'it returns false'. Refute it at one input. -/
def rateCostsWrong : ChangeSpec := { name := "rateCosts", fn := fun _ => fun
  | [d] => { results := [.lit (.bool false)], args := [d] }
  | _ => none }
def RateCostsWrongFalsely : Prop := rateCostsRow.holds Try.pinned (OpenSpec.ofChange rateCostsWrong)

/-- 'gemellaw03.RateBest': WHATEVER THE INPUT: true; the input reads as it did. -/
def rateBestSpec : ChangeSpec := { name := "rateBest", fn := fun _ => fun
  | [d] => { results := [.lit (.bool true)], args := [d] }
  | _ => none }
def rateBestRow : OpenClaim := { program := "ytfhfhajanpminaa", sum := "f065b64e8cc7901911fba33d7a8f526ef649ad5c2b684f2022c986db99949cb9", func := "gemel/gemellaw03.RateBest", spec := "rateBest", inPlace := ["math.Float64bits", "math.Float64frombits"], unfollowed := true, recurses := true, apart := false }
def RateBestSaid : Prop := rateBestRow.holds Try.pinned (OpenSpec.ofChange rateBestSpec)

/-- ITS FALSE NEIGHBOUR: 'it returns false'. Refute it at one input. -/
def rateBestWrong : ChangeSpec := { name := "rateBest", fn := fun _ => fun
  | [d] => { results := [.lit (.bool false)], args := [d] }
  | _ => none }
def RateBestWrongFalsely : Prop := rateBestRow.holds Try.pinned (OpenSpec.ofChange rateBestWrong)

/- THE SECOND FORM. 'bulk': how many values and letters a reading holds, each counted each time it is reached (what is shared counts as often as it is met; a slice's spare places count too). A statement '..UptoSaid' is the law's where the arguments, and the package variables that the reading takes, are together of bulk at most 1048576: NARROWER than '..Said'. Prove '..Said' where nothing that the law and all that it calls make is longer than what came in: it says more and counts as full. Else prove '..UptoSaid'. A law counts once. -/
mutual
def uptoBulk {H : Type} : DataW H → Nat
  | .lit (.string bytes) => bytes.length + 1
  | .lit _ => 1
  | .nil => 1
  | .ptr d => uptoBulk d + 1
  | .slice elems spare => uptoBulkAll elems + uptoBulkAll spare + 1
  | .agg parts => uptoBulkAll parts + 1
  | .iface _ d => uptoBulk d + 1
  | .map entries => uptoBulkEntries entries + 1
  | .held _ => 1
def uptoBulkAll {H : Type} : List (DataW H) → Nat
  | [] => 0
  | d :: r => uptoBulk d + uptoBulkAll r
def uptoBulkEntries {H : Type} : List (Lit × DataW H) → Nat
  | [] => 0
  | x :: r => uptoBulkEntry x + uptoBulkEntries r
def uptoBulkEntry {H : Type} : Lit × DataW H → Nat
  | (.string bytes, d) => bytes.length + uptoBulk d + 1
  | (_, d) => uptoBulk d + 1
 end
def uptoSmall : (H : Type) → List (DataW H) → Bool := fun _ ds => decide (uptoBulkAll ds ≤ 1048576)
def OpenSpec.upto (s : _root_.Go.ChangeSpec) : _root_.Go.OpenSpec := { _root_.Go.OpenSpec.ofChange s with cond := some uptoSmall }

/-- 'gemellaw03.RateLimits', WHERE WHAT IT READS IS OF BULK AT MOST 1048576: true; the input reads as it did. -/
def rateLimitsUptoRow : OpenClaim := { program := "ytfhfhajanpminaa", sum := "f065b64e8cc7901911fba33d7a8f526ef649ad5c2b684f2022c986db99949cb9", func := "gemel/gemellaw03.RateLimits", spec := "rateLimits", inPlace := ["math.Float64bits"], unfollowed := true, recurses := true, apart := false, narrowed := true }
def RateLimitsUptoSaid : Prop := rateLimitsUptoRow.holds Try.pinned (OpenSpec.upto rateLimitsSpec)

/-- 'gemellaw03.RateOrder', WHERE WHAT IT READS IS OF BULK AT MOST 1048576: true; the input reads as it did. -/
def rateOrderUptoRow : OpenClaim := { program := "ytfhfhajanpminaa", sum := "f065b64e8cc7901911fba33d7a8f526ef649ad5c2b684f2022c986db99949cb9", func := "gemel/gemellaw03.RateOrder", spec := "rateOrder", inPlace := ["math.Float64bits"], unfollowed := true, recurses := true, apart := false, narrowed := true }
def RateOrderUptoSaid : Prop := rateOrderUptoRow.holds Try.pinned (OpenSpec.upto rateOrderSpec)

/-- 'gemellaw03.RateRises', WHERE WHAT IT READS IS OF BULK AT MOST 1048576: true; the input reads as it did. -/
def rateRisesUptoRow : OpenClaim := { program := "ytfhfhajanpminaa", sum := "f065b64e8cc7901911fba33d7a8f526ef649ad5c2b684f2022c986db99949cb9", func := "gemel/gemellaw03.RateRises", spec := "rateRises", inPlace := ["math.Float64bits"], unfollowed := true, recurses := true, apart := false, narrowed := true }
def RateRisesUptoSaid : Prop := rateRisesUptoRow.holds Try.pinned (OpenSpec.upto rateRisesSpec)

/-- 'gemellaw03.RateCosts', WHERE WHAT IT READS IS OF BULK AT MOST 1048576: true; the input reads as it did. -/
def rateCostsUptoRow : OpenClaim := { program := "ytfhfhajanpminaa", sum := "f065b64e8cc7901911fba33d7a8f526ef649ad5c2b684f2022c986db99949cb9", func := "gemel/gemellaw03.RateCosts", spec := "rateCosts", inPlace := ["math.Float64bits", "math.Float64frombits"], unfollowed := true, recurses := true, apart := false, narrowed := true }
def RateCostsUptoSaid : Prop := rateCostsUptoRow.holds Try.pinned (OpenSpec.upto rateCostsSpec)

/-- 'gemellaw03.RateBest', WHERE WHAT IT READS IS OF BULK AT MOST 1048576: true; the input reads as it did. -/
def rateBestUptoRow : OpenClaim := { program := "ytfhfhajanpminaa", sum := "f065b64e8cc7901911fba33d7a8f526ef649ad5c2b684f2022c986db99949cb9", func := "gemel/gemellaw03.RateBest", spec := "rateBest", inPlace := ["math.Float64bits", "math.Float64frombits"], unfollowed := true, recurses := true, apart := false, narrowed := true }
def RateBestUptoSaid : Prop := rateBestUptoRow.holds Try.pinned (OpenSpec.upto rateBestSpec)

end Rows
end Go.Proofs.Ytfhfhajanpminaa
