/- Texts out of bytes: alike just if the bytes are. Of no program. -/
import Derived.Test.YtgchepijbpcckaaDoorGm
namespace Go.Gm
theorem text_beq {a b : List Int} (ha : Small a) (hb : Small b) : ((strOfNums a).toList == (strOfNums b).toList) = decide (a = b) := by
  by_cases h : a = b
  · subst h
    simp
  · have h2 : ¬ (strOfNums a).toList = (strOfNums b).toList := fun e => h (strOfNums_inj ha hb (by
      rw [ByteArray.toList_eq, ByteArray.toList_eq] at e
      exact Go.WideShapes.bytes_inj e))
    simp [h, h2]
end Go.Gm
