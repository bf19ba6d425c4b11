/- What 'shown' reads and prints. Conditions: none. -/
import Derived.Test.YtdnnamaimgijpaaDoorS18
set_option linter.unusedVariables false
set_option linter.unusedSectionVars false
set_option maxRecDepth 100000
namespace Go.Proofs.YtdnnamaimgijpaaDoor
open Go Go.Sx Go.Proofs Go.Lib Go.RowKit

def shownT : ByteArray := (ByteArray.mk (List.toArray (List.append [115, 116, 105, 110, 116, 32, 49, 48, 48, 32, 50, 53, 54, 32, 52, 48, 57, 54, 10, 35, 32, 97, 32, 114, 101, 109, 97, 114, 107, 10, 111, 112, 101, 110, 32, 49, 10, 102, 101, 101, 100, 32, 49] [32, 61, 97, 92, 115, 92, 120, 48, 48, 92, 114, 92, 110, 32, 98, 114, 101, 97, 107, 32, 51, 32, 107, 101, 101, 112, 32, 48, 32, 55, 10, 99, 114, 97, 115, 104, 32, 107, 101, 101, 112, 32, 53, 10])))
def shownT2 : ByteArray := (ByteArray.mk #[115, 116, 105, 110, 116, 32, 49, 48, 48, 32, 50, 53, 54, 32, 52, 48, 57, 54, 10, 84, 105, 99, 107])
def shownC : Cfg := ⟨100, 256, 4096⟩
def shownS : List StepV := [⟨1, 1, [], 0, []⟩, ⟨2, 1, [97, 32, 0, 13, 10], 3, [0, 7]⟩, ⟨6, 0, [], 0, [5]⟩]
theorem shown_parse : parseP shownT = ⟨shownC, shownS, 0, 0⟩ := by kernel_rfl
theorem shown_parse2 : parseP shownT2 = ⟨cfg0, [], 2, 191⟩ := by kernel_rfl
theorem shown_print : printP shownC shownS = ((shownT.extract 0 19 ++ shownT.extract 30 shownT.size).data.toList, 0) := by kernel_rfl
end Go.Proofs.YtdnnamaimgijpaaDoor
