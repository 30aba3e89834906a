/- A walk is halted ahead of an operation. Of no program. -/
import Derived.Test.YtgchepijbpcckaaDoorPlan
namespace Go
open Go.RowKit
theorem stop_at (n : Nat) {P : Program} {ops : Array Oper} {Q : Exit → Act → World → Prop} {op : Op} {type : TypeId} {pos : String} {after : Array Edge} {guard : Option (Nat × Bool)} {rest : List Oper} {a : Act} {w : World}
    (h : Hid (wpList P ops Q (⟨some n, op, type, pos, after, guard⟩ :: rest) a w)) : wpList P ops Q (⟨some n, op, type, pos, after, guard⟩ :: rest) a w := h
end Go
