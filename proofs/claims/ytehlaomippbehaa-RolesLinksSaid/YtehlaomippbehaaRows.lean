/-
  No cell of these rows narrows 'for every input' (looked for: loops, veiled, ifaces, maps, wideKeys, modest, calm, conditions, laid).
  DERIVED. THE GIVEN ROWS OF THIS SEAT. 13 by the template 'for every input the law returns true; each argument reads behind the call as it read before'; 0 by the template 'total and deterministic' (their statements: YtehlaomippbehaaTotals.lean).
  GIVEN WITH THE SEED: the statements are not yours to turn. If you find one false, say at which input.
  Laid BY PROGRAM, IN A SANDBOX (cutbox-rows.mjs): the forced cells as the released guide's own fill.sh prints them over the translation f6ad1928b866c759… (all of the seat's roots in one cut). By AI agents, Wed Nov 11 2026. No macro, syntax, notation, axiom, sorry.
-/
import Derived.Test.YtehlaomippbehaaChecked
import GoSem.Claim
import GoSem.ClaimJoined
import GoSem.ClaimMapViews
import Derived.JoinedTies
import Derived.KernelRfl
namespace Go.Proofs.Ytehlaomippbehaa
/- THE CELL 'sum', in the pinned program and in every row, IS THE sha256 OF THE DUMP (.gsa) THAT YtehlaomippbehaaProg.lean LOADS. Nothing in Lean hashes anything: it is a label: what it is worth is what the hold of that sum in a sandbox is worth. -/
noncomputable def Try.pinned : Pinned := { name := "ytehlaomippbehaa", sum := "f6ad1928b866c7596112c3f634daf8f7710df5a0b44752a860043c247a534273", checked := Try.checked }
namespace Rows
def none {H : Type} : Left H := { results := [], args := [] }

/-- 'gemellaw16.VectorCompares': WHATEVER THE INPUT: true; the input reads as it did. -/
def vectorComparesSpec : ChangeSpec := { name := "vectorCompares", fn := fun _ => fun
  | [d1, d2, d3] => { results := [.lit (.bool true)], args := [d1, d2, d3] }
  | _ => none }
def vectorComparesRow : OpenClaim := { program := "ytehlaomippbehaa", sum := "f6ad1928b866c7596112c3f634daf8f7710df5a0b44752a860043c247a534273", func := "gemel/gemellaw16.VectorCompares", spec := "vectorCompares", inPlace := ["internal/bytealg.Compare"], apart := false }
def VectorComparesSaid : Prop := vectorComparesRow.holds Try.pinned (OpenSpec.ofChange vectorComparesSpec)

/-- ITS FALSE NEIGHBOUR: 'it returns false'. Refute it at one input. -/
def vectorComparesWrong : ChangeSpec := { name := "vectorCompares", fn := fun _ => fun
  | [d1, d2, d3] => { results := [.lit (.bool false)], args := [d1, d2, d3] }
  | _ => none }
def VectorComparesWrongFalsely : Prop := vectorComparesRow.holds Try.pinned (OpenSpec.ofChange vectorComparesWrong)

/-- 'gemellaw16.VectorBest': WHATEVER THE INPUT: true; the input reads as it did. -/
def vectorBestSpec : ChangeSpec := { name := "vectorBest", fn := fun _ => fun
  | [d] => { results := [.lit (.bool true)], args := [d] }
  | _ => none }
def vectorBestRow : OpenClaim := { program := "ytehlaomippbehaa", sum := "f6ad1928b866c7596112c3f634daf8f7710df5a0b44752a860043c247a534273", func := "gemel/gemellaw16.VectorBest", spec := "vectorBest", inPlace := ["internal/bytealg.Compare"], apart := false }
def VectorBestSaid : Prop := vectorBestRow.holds Try.pinned (OpenSpec.ofChange vectorBestSpec)

/-- ITS FALSE NEIGHBOUR: 'it returns false'. Refute it at one input. -/
def vectorBestWrong : ChangeSpec := { name := "vectorBest", fn := fun _ => fun
  | [d] => { results := [.lit (.bool false)], args := [d] }
  | _ => none }
def VectorBestWrongFalsely : Prop := vectorBestRow.holds Try.pinned (OpenSpec.ofChange vectorBestWrong)

/-- 'gemellaw16.VectorOrder': WHATEVER THE INPUT: true; the input reads as it did. -/
def vectorOrderSpec : ChangeSpec := { name := "vectorOrder", fn := fun _ => fun
  | [d1, d2, d3] => { results := [.lit (.bool true)], args := [d1, d2, d3] }
  | _ => none }
def vectorOrderRow : OpenClaim := { program := "ytehlaomippbehaa", sum := "f6ad1928b866c7596112c3f634daf8f7710df5a0b44752a860043c247a534273", func := "gemel/gemellaw16.VectorOrder", spec := "vectorOrder", inPlace := ["internal/bytealg.Compare"], apart := false }
def VectorOrderSaid : Prop := vectorOrderRow.holds Try.pinned (OpenSpec.ofChange vectorOrderSpec)

/-- ITS FALSE NEIGHBOUR: 'it returns false'. Refute it at one input. -/
def vectorOrderWrong : ChangeSpec := { name := "vectorOrder", fn := fun _ => fun
  | [d1, d2, d3] => { results := [.lit (.bool false)], args := [d1, d2, d3] }
  | _ => none }
def VectorOrderWrongFalsely : Prop := vectorOrderRow.holds Try.pinned (OpenSpec.ofChange vectorOrderWrong)

/-- 'gemellaw16.VectorAdds': WHATEVER THE INPUT: true; the input reads as it did. -/
def vectorAddsSpec : ChangeSpec := { name := "vectorAdds", fn := fun _ => fun
  | [d1, d2, d3] => { results := [.lit (.bool true)], args := [d1, d2, d3] }
  | _ => none }
def vectorAddsRow : OpenClaim := { program := "ytehlaomippbehaa", sum := "f6ad1928b866c7596112c3f634daf8f7710df5a0b44752a860043c247a534273", func := "gemel/gemellaw16.VectorAdds", spec := "vectorAdds", inPlace := ["internal/bytealg.Compare"], apart := false }
def VectorAddsSaid : Prop := vectorAddsRow.holds Try.pinned (OpenSpec.ofChange vectorAddsSpec)

/-- ITS FALSE NEIGHBOUR: 'it returns false'. Refute it at one input. -/
def vectorAddsWrong : ChangeSpec := { name := "vectorAdds", fn := fun _ => fun
  | [d1, d2, d3] => { results := [.lit (.bool false)], args := [d1, d2, d3] }
  | _ => none }
def VectorAddsWrongFalsely : Prop := vectorAddsRow.holds Try.pinned (OpenSpec.ofChange vectorAddsWrong)

/-- 'gemellaw16.VectorFar': WHATEVER THE INPUT: true; the input reads as it did. -/
def vectorFarSpec : ChangeSpec := { name := "vectorFar", fn := fun _ => fun
  | [d1, d2] => { results := [.lit (.bool true)], args := [d1, d2] }
  | _ => none }
def vectorFarRow : OpenClaim := { program := "ytehlaomippbehaa", sum := "f6ad1928b866c7596112c3f634daf8f7710df5a0b44752a860043c247a534273", func := "gemel/gemellaw16.VectorFar", spec := "vectorFar", inPlace := ["internal/bytealg.Compare"], apart := false }
def VectorFarSaid : Prop := vectorFarRow.holds Try.pinned (OpenSpec.ofChange vectorFarSpec)

/-- ITS FALSE NEIGHBOUR: 'it returns false'. Refute it at one input. -/
def vectorFarWrong : ChangeSpec := { name := "vectorFar", fn := fun _ => fun
  | [d1, d2] => { results := [.lit (.bool false)], args := [d1, d2] }
  | _ => none }
def VectorFarWrongFalsely : Prop := vectorFarRow.holds Try.pinned (OpenSpec.ofChange vectorFarWrong)

/-- 'gemellaw16.VectorTells': WHATEVER THE INPUT: true; the input reads as it did. -/
def vectorTellsSpec : ChangeSpec := { name := "vectorTells", fn := fun _ => fun
  | [d1, d2] => { results := [.lit (.bool true)], args := [d1, d2] }
  | _ => none }
def vectorTellsRow : OpenClaim := { program := "ytehlaomippbehaa", sum := "f6ad1928b866c7596112c3f634daf8f7710df5a0b44752a860043c247a534273", func := "gemel/gemellaw16.VectorTells", spec := "vectorTells", inPlace := ["internal/bytealg.Compare"], unfollowed := true, recurses := true, apart := false }
def VectorTellsSaid : Prop := vectorTellsRow.holds Try.pinned (OpenSpec.ofChange vectorTellsSpec)

/-- ITS FALSE NEIGHBOUR: 'it returns false'. Refute it at one input. -/
def vectorTellsWrong : ChangeSpec := { name := "vectorTells", fn := fun _ => fun
  | [d1, d2] => { results := [.lit (.bool false)], args := [d1, d2] }
  | _ => none }
def VectorTellsWrongFalsely : Prop := vectorTellsRow.holds Try.pinned (OpenSpec.ofChange vectorTellsWrong)

/-- 'gemellaw17.RolesSelects': WHATEVER THE INPUT: true; the input reads as it did. -/
def rolesSelectsSpec : ChangeSpec := { name := "rolesSelects", fn := fun _ => fun
  | [d1, d2] => { results := [.lit (.bool true)], args := [d1, d2] }
  | _ => none }
def rolesSelectsRow : OpenClaim := { program := "ytehlaomippbehaa", sum := "f6ad1928b866c7596112c3f634daf8f7710df5a0b44752a860043c247a534273", func := "gemel/gemellaw17.RolesSelects", spec := "rolesSelects", inPlace := ["internal/bytealg.Compare"], unfollowed := true, recurses := true, apart := false }
def RolesSelectsSaid : Prop := rolesSelectsRow.holds Try.pinned (OpenSpec.ofChange rolesSelectsSpec)

/-- ITS FALSE NEIGHBOUR: 'it returns false'. Refute it at one input. -/
def rolesSelectsWrong : ChangeSpec := { name := "rolesSelects", fn := fun _ => fun
  | [d1, d2] => { results := [.lit (.bool false)], args := [d1, d2] }
  | _ => none }
def RolesSelectsWrongFalsely : Prop := rolesSelectsRow.holds Try.pinned (OpenSpec.ofChange rolesSelectsWrong)

/-- 'gemellaw17.RolesOffers': WHATEVER THE INPUT: true; the input reads as it did. -/
def rolesOffersSpec : ChangeSpec := { name := "rolesOffers", fn := fun _ => fun
  | [d1, d2, d3] => { results := [.lit (.bool true)], args := [d1, d2, d3] }
  | _ => none }
def rolesOffersRow : OpenClaim := { program := "ytehlaomippbehaa", sum := "f6ad1928b866c7596112c3f634daf8f7710df5a0b44752a860043c247a534273", func := "gemel/gemellaw17.RolesOffers", spec := "rolesOffers", inPlace := ["internal/bytealg.Compare"], unfollowed := true, recurses := true, apart := false }
def RolesOffersSaid : Prop := rolesOffersRow.holds Try.pinned (OpenSpec.ofChange rolesOffersSpec)

/-- ITS FALSE NEIGHBOUR: 'it returns false'. Refute it at one input. -/
def rolesOffersWrong : ChangeSpec := { name := "rolesOffers", fn := fun _ => fun
  | [d1, d2, d3] => { results := [.lit (.bool false)], args := [d1, d2, d3] }
  | _ => none }
def RolesOffersWrongFalsely : Prop := rolesOffersRow.holds Try.pinned (OpenSpec.ofChange rolesOffersWrong)

/-- 'gemellaw17.RolesRoot': WHATEVER THE INPUT: true; the input reads as it did. -/
def rolesRootSpec : ChangeSpec := { name := "rolesRoot", fn := fun _ => fun
  | [d1, d2] => { results := [.lit (.bool true)], args := [d1, d2] }
  | _ => none }
def rolesRootRow : OpenClaim := { program := "ytehlaomippbehaa", sum := "f6ad1928b866c7596112c3f634daf8f7710df5a0b44752a860043c247a534273", func := "gemel/gemellaw17.RolesRoot", spec := "rolesRoot", inPlace := ["internal/bytealg.Compare"], unfollowed := true, recurses := true, apart := false }
def RolesRootSaid : Prop := rolesRootRow.holds Try.pinned (OpenSpec.ofChange rolesRootSpec)

/-- ITS FALSE NEIGHBOUR: 'it returns false'. Refute it at one input. -/
def rolesRootWrong : ChangeSpec := { name := "rolesRoot", fn := fun _ => fun
  | [d1, d2] => { results := [.lit (.bool false)], args := [d1, d2] }
  | _ => none }
def RolesRootWrongFalsely : Prop := rolesRootRow.holds Try.pinned (OpenSpec.ofChange rolesRootWrong)

/-- 'gemellaw17.RolesLinks': WHATEVER THE INPUT: true; the input reads as it did. -/
def rolesLinksSpec : ChangeSpec := { name := "rolesLinks", fn := fun _ => fun
  | [d1, d2, d3] => { results := [.lit (.bool true)], args := [d1, d2, d3] }
  | _ => none }
def rolesLinksRow : OpenClaim := { program := "ytehlaomippbehaa", sum := "f6ad1928b866c7596112c3f634daf8f7710df5a0b44752a860043c247a534273", func := "gemel/gemellaw17.RolesLinks", spec := "rolesLinks", inPlace := ["internal/bytealg.Compare"], unfollowed := true, recurses := true, apart := false }
def RolesLinksSaid : Prop := rolesLinksRow.holds Try.pinned (OpenSpec.ofChange rolesLinksSpec)

/-- ITS FALSE NEIGHBOUR: 'it returns false'. Refute it at one input. -/
def rolesLinksWrong : ChangeSpec := { name := "rolesLinks", fn := fun _ => fun
  | [d1, d2, d3] => { results := [.lit (.bool false)], args := [d1, d2, d3] }
  | _ => none }
def RolesLinksWrongFalsely : Prop := rolesLinksRow.holds Try.pinned (OpenSpec.ofChange rolesLinksWrong)

/-- 'gemellaw17.RolesAlone': WHATEVER THE INPUT: true; the input reads as it did. -/
def rolesAloneSpec : ChangeSpec := { name := "rolesAlone", fn := fun _ => fun
  | [d1, d2] => { results := [.lit (.bool true)], args := [d1, d2] }
  | _ => none }
def rolesAloneRow : OpenClaim := { program := "ytehlaomippbehaa", sum := "f6ad1928b866c7596112c3f634daf8f7710df5a0b44752a860043c247a534273", func := "gemel/gemellaw17.RolesAlone", spec := "rolesAlone", inPlace := ["internal/bytealg.Compare"], unfollowed := true, recurses := true, apart := false }
def RolesAloneSaid : Prop := rolesAloneRow.holds Try.pinned (OpenSpec.ofChange rolesAloneSpec)

/-- ITS FALSE NEIGHBOUR: 'it returns false'. Refute it at one input. -/
def rolesAloneWrong : ChangeSpec := { name := "rolesAlone", fn := fun _ => fun
  | [d1, d2] => { results := [.lit (.bool false)], args := [d1, d2] }
  | _ => none }
def RolesAloneWrongFalsely : Prop := rolesAloneRow.holds Try.pinned (OpenSpec.ofChange rolesAloneWrong)

/-- 'gemellaw17.RolesTurned': WHATEVER THE INPUT: true; the input reads as it did. -/
def rolesTurnedSpec : ChangeSpec := { name := "rolesTurned", fn := fun _ => fun
  | [d1, d2] => { results := [.lit (.bool true)], args := [d1, d2] }
  | _ => none }
def rolesTurnedRow : OpenClaim := { program := "ytehlaomippbehaa", sum := "f6ad1928b866c7596112c3f634daf8f7710df5a0b44752a860043c247a534273", func := "gemel/gemellaw17.RolesTurned", spec := "rolesTurned", inPlace := ["internal/bytealg.Compare"], unfollowed := true, recurses := true, apart := false }
def RolesTurnedSaid : Prop := rolesTurnedRow.holds Try.pinned (OpenSpec.ofChange rolesTurnedSpec)

/-- ITS FALSE NEIGHBOUR: 'it returns false'. Refute it at one input. -/
def rolesTurnedWrong : ChangeSpec := { name := "rolesTurned", fn := fun _ => fun
  | [d1, d2] => { results := [.lit (.bool false)], args := [d1, d2] }
  | _ => none }
def RolesTurnedWrongFalsely : Prop := rolesTurnedRow.holds Try.pinned (OpenSpec.ofChange rolesTurnedWrong)

/-- 'gemellaw17.RolesBackup': WHATEVER THE INPUT: true; the input reads as it did. -/
def rolesBackupSpec : ChangeSpec := { name := "rolesBackup", fn := fun _ => fun
  | [d1, d2, d3] => { results := [.lit (.bool true)], args := [d1, d2, d3] }
  | _ => none }
def rolesBackupRow : OpenClaim := { program := "ytehlaomippbehaa", sum := "f6ad1928b866c7596112c3f634daf8f7710df5a0b44752a860043c247a534273", func := "gemel/gemellaw17.RolesBackup", spec := "rolesBackup", inPlace := ["internal/bytealg.Compare"], unfollowed := true, recurses := true, apart := false }
def RolesBackupSaid : Prop := rolesBackupRow.holds Try.pinned (OpenSpec.ofChange rolesBackupSpec)

/-- ITS FALSE NEIGHBOUR: 'it returns false'. Refute it at one input. -/
def rolesBackupWrong : ChangeSpec := { name := "rolesBackup", fn := fun _ => fun
  | [d1, d2, d3] => { results := [.lit (.bool false)], args := [d1, d2, d3] }
  | _ => none }
def RolesBackupWrongFalsely : Prop := rolesBackupRow.holds Try.pinned (OpenSpec.ofChange rolesBackupWrong)

/- THE SECOND FORM. 'bulk': how many values and letters a reading holds, each counted each time it is reached (what is shared counts as often as it is met; a slice's spare places count too). A statement '..UptoSaid' is the law's where the arguments, and the package variables that the reading takes, are together of bulk at most 1048576: NARROWER than '..Said'. Prove '..Said' where nothing that the law and all that it calls make is longer than what came in: it says more and counts as full. Else prove '..UptoSaid'. A law counts once. -/
mutual
def uptoBulk {H : Type} : DataW H → Nat
  | .lit (.string bytes) => bytes.length + 1
  | .lit _ => 1
  | .nil => 1
  | .ptr d => uptoBulk d + 1
  | .slice elems spare => uptoBulkAll elems + uptoBulkAll spare + 1
  | .agg parts => uptoBulkAll parts + 1
  | .iface _ d => uptoBulk d + 1
  | .map entries => uptoBulkEntries entries + 1
  | .held _ => 1
def uptoBulkAll {H : Type} : List (DataW H) → Nat
  | [] => 0
  | d :: r => uptoBulk d + uptoBulkAll r
def uptoBulkEntries {H : Type} : List (Lit × DataW H) → Nat
  | [] => 0
  | x :: r => uptoBulkEntry x + uptoBulkEntries r
def uptoBulkEntry {H : Type} : Lit × DataW H → Nat
  | (.string bytes, d) => bytes.length + uptoBulk d + 1
  | (_, d) => uptoBulk d + 1
 end
def uptoSmall : (H : Type) → List (DataW H) → Bool := fun _ ds => decide (uptoBulkAll ds ≤ 1048576)
def OpenSpec.upto (s : _root_.Go.ChangeSpec) : _root_.Go.OpenSpec := { _root_.Go.OpenSpec.ofChange s with cond := some uptoSmall }

/-- 'gemellaw16.VectorCompares', WHERE WHAT IT READS IS OF BULK AT MOST 1048576: true; the input reads as it did. -/
def vectorComparesUptoRow : OpenClaim := { program := "ytehlaomippbehaa", sum := "f6ad1928b866c7596112c3f634daf8f7710df5a0b44752a860043c247a534273", func := "gemel/gemellaw16.VectorCompares", spec := "vectorCompares", inPlace := ["internal/bytealg.Compare"], apart := false, narrowed := true }
def VectorComparesUptoSaid : Prop := vectorComparesUptoRow.holds Try.pinned (OpenSpec.upto vectorComparesSpec)

/-- 'gemellaw16.VectorBest', WHERE WHAT IT READS IS OF BULK AT MOST 1048576: true; the input reads as it did. -/
def vectorBestUptoRow : OpenClaim := { program := "ytehlaomippbehaa", sum := "f6ad1928b866c7596112c3f634daf8f7710df5a0b44752a860043c247a534273", func := "gemel/gemellaw16.VectorBest", spec := "vectorBest", inPlace := ["internal/bytealg.Compare"], apart := false, narrowed := true }
def VectorBestUptoSaid : Prop := vectorBestUptoRow.holds Try.pinned (OpenSpec.upto vectorBestSpec)

/-- 'gemellaw16.VectorOrder', WHERE WHAT IT READS IS OF BULK AT MOST 1048576: true; the input reads as it did. -/
def vectorOrderUptoRow : OpenClaim := { program := "ytehlaomippbehaa", sum := "f6ad1928b866c7596112c3f634daf8f7710df5a0b44752a860043c247a534273", func := "gemel/gemellaw16.VectorOrder", spec := "vectorOrder", inPlace := ["internal/bytealg.Compare"], apart := false, narrowed := true }
def VectorOrderUptoSaid : Prop := vectorOrderUptoRow.holds Try.pinned (OpenSpec.upto vectorOrderSpec)

/-- 'gemellaw16.VectorAdds', WHERE WHAT IT READS IS OF BULK AT MOST 1048576: true; the input reads as it did. -/
def vectorAddsUptoRow : OpenClaim := { program := "ytehlaomippbehaa", sum := "f6ad1928b866c7596112c3f634daf8f7710df5a0b44752a860043c247a534273", func := "gemel/gemellaw16.VectorAdds", spec := "vectorAdds", inPlace := ["internal/bytealg.Compare"], apart := false, narrowed := true }
def VectorAddsUptoSaid : Prop := vectorAddsUptoRow.holds Try.pinned (OpenSpec.upto vectorAddsSpec)

/-- 'gemellaw16.VectorFar', WHERE WHAT IT READS IS OF BULK AT MOST 1048576: true; the input reads as it did. -/
def vectorFarUptoRow : OpenClaim := { program := "ytehlaomippbehaa", sum := "f6ad1928b866c7596112c3f634daf8f7710df5a0b44752a860043c247a534273", func := "gemel/gemellaw16.VectorFar", spec := "vectorFar", inPlace := ["internal/bytealg.Compare"], apart := false, narrowed := true }
def VectorFarUptoSaid : Prop := vectorFarUptoRow.holds Try.pinned (OpenSpec.upto vectorFarSpec)

/-- 'gemellaw16.VectorTells', WHERE WHAT IT READS IS OF BULK AT MOST 1048576: true; the input reads as it did. -/
def vectorTellsUptoRow : OpenClaim := { program := "ytehlaomippbehaa", sum := "f6ad1928b866c7596112c3f634daf8f7710df5a0b44752a860043c247a534273", func := "gemel/gemellaw16.VectorTells", spec := "vectorTells", inPlace := ["internal/bytealg.Compare"], unfollowed := true, recurses := true, apart := false, narrowed := true }
def VectorTellsUptoSaid : Prop := vectorTellsUptoRow.holds Try.pinned (OpenSpec.upto vectorTellsSpec)

/-- 'gemellaw17.RolesSelects', WHERE WHAT IT READS IS OF BULK AT MOST 1048576: true; the input reads as it did. -/
def rolesSelectsUptoRow : OpenClaim := { program := "ytehlaomippbehaa", sum := "f6ad1928b866c7596112c3f634daf8f7710df5a0b44752a860043c247a534273", func := "gemel/gemellaw17.RolesSelects", spec := "rolesSelects", inPlace := ["internal/bytealg.Compare"], unfollowed := true, recurses := true, apart := false, narrowed := true }
def RolesSelectsUptoSaid : Prop := rolesSelectsUptoRow.holds Try.pinned (OpenSpec.upto rolesSelectsSpec)

/-- 'gemellaw17.RolesOffers', WHERE WHAT IT READS IS OF BULK AT MOST 1048576: true; the input reads as it did. -/
def rolesOffersUptoRow : OpenClaim := { program := "ytehlaomippbehaa", sum := "f6ad1928b866c7596112c3f634daf8f7710df5a0b44752a860043c247a534273", func := "gemel/gemellaw17.RolesOffers", spec := "rolesOffers", inPlace := ["internal/bytealg.Compare"], unfollowed := true, recurses := true, apart := false, narrowed := true }
def RolesOffersUptoSaid : Prop := rolesOffersUptoRow.holds Try.pinned (OpenSpec.upto rolesOffersSpec)

/-- 'gemellaw17.RolesRoot', WHERE WHAT IT READS IS OF BULK AT MOST 1048576: true; the input reads as it did. -/
def rolesRootUptoRow : OpenClaim := { program := "ytehlaomippbehaa", sum := "f6ad1928b866c7596112c3f634daf8f7710df5a0b44752a860043c247a534273", func := "gemel/gemellaw17.RolesRoot", spec := "rolesRoot", inPlace := ["internal/bytealg.Compare"], unfollowed := true, recurses := true, apart := false, narrowed := true }
def RolesRootUptoSaid : Prop := rolesRootUptoRow.holds Try.pinned (OpenSpec.upto rolesRootSpec)

/-- 'gemellaw17.RolesLinks', WHERE WHAT IT READS IS OF BULK AT MOST 1048576: true; the input reads as it did. -/
def rolesLinksUptoRow : OpenClaim := { program := "ytehlaomippbehaa", sum := "f6ad1928b866c7596112c3f634daf8f7710df5a0b44752a860043c247a534273", func := "gemel/gemellaw17.RolesLinks", spec := "rolesLinks", inPlace := ["internal/bytealg.Compare"], unfollowed := true, recurses := true, apart := false, narrowed := true }
def RolesLinksUptoSaid : Prop := rolesLinksUptoRow.holds Try.pinned (OpenSpec.upto rolesLinksSpec)

/-- 'gemellaw17.RolesAlone', WHERE WHAT IT READS IS OF BULK AT MOST 1048576: true; the input reads as it did. -/
def rolesAloneUptoRow : OpenClaim := { program := "ytehlaomippbehaa", sum := "f6ad1928b866c7596112c3f634daf8f7710df5a0b44752a860043c247a534273", func := "gemel/gemellaw17.RolesAlone", spec := "rolesAlone", inPlace := ["internal/bytealg.Compare"], unfollowed := true, recurses := true, apart := false, narrowed := true }
def RolesAloneUptoSaid : Prop := rolesAloneUptoRow.holds Try.pinned (OpenSpec.upto rolesAloneSpec)

/-- 'gemellaw17.RolesTurned', WHERE WHAT IT READS IS OF BULK AT MOST 1048576: true; the input reads as it did. -/
def rolesTurnedUptoRow : OpenClaim := { program := "ytehlaomippbehaa", sum := "f6ad1928b866c7596112c3f634daf8f7710df5a0b44752a860043c247a534273", func := "gemel/gemellaw17.RolesTurned", spec := "rolesTurned", inPlace := ["internal/bytealg.Compare"], unfollowed := true, recurses := true, apart := false, narrowed := true }
def RolesTurnedUptoSaid : Prop := rolesTurnedUptoRow.holds Try.pinned (OpenSpec.upto rolesTurnedSpec)

/-- 'gemellaw17.RolesBackup', WHERE WHAT IT READS IS OF BULK AT MOST 1048576: true; the input reads as it did. -/
def rolesBackupUptoRow : OpenClaim := { program := "ytehlaomippbehaa", sum := "f6ad1928b866c7596112c3f634daf8f7710df5a0b44752a860043c247a534273", func := "gemel/gemellaw17.RolesBackup", spec := "rolesBackup", inPlace := ["internal/bytealg.Compare"], unfollowed := true, recurses := true, apart := false, narrowed := true }
def RolesBackupUptoSaid : Prop := rolesBackupUptoRow.holds Try.pinned (OpenSpec.upto rolesBackupSpec)

end Rows
end Go.Proofs.Ytehlaomippbehaa
