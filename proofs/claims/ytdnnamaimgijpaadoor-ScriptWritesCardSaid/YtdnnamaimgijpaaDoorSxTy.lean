/- The types of this seat, for the rules of Sx. Conditions: none. -/
import Derived.Test.YtdnnamaimgijpaaDoorSxMem
import Derived.Test.YtdnnamaimgijpaaDoorProg
set_option linter.unusedVariables false
set_option maxRecDepth 100000
namespace Go.Proofs.YtdnnamaimgijpaaDoor
open Go Go.Sx Go.Proofs
noncomputable abbrev P : Program := Tryd.prog
theorem mixed : P.follows .mixedOrders = true := by kernel_rfl
instance und3 : Und P 3 (TypeDesc.int IntKind.i64) := ⟨Tryd.underlying3⟩
instance ty3 : Ty P 3 false 1 (Value.int IntKind.i64 0) 8 := ⟨fun _ => by kernel_rfl, fun _ => by kernel_rfl, fun _ => by kernel_rfl, ⟨Tryd.t3, by kernel_rfl, rfl, rfl, rfl⟩, rfl⟩
instance und4 : Und P 4 TypeDesc.bool := ⟨Tryd.underlying4⟩
instance ty4 : Ty P 4 false 1 (Value.bool false) 1 := ⟨fun _ => by kernel_rfl, fun _ => by kernel_rfl, fun _ => by kernel_rfl, ⟨Tryd.t4, by kernel_rfl, rfl, rfl, rfl⟩, rfl⟩
instance und5 : Und P 5 (TypeDesc.int IntKind.u8) := ⟨Tryd.underlying5⟩
instance ty5 : Ty P 5 false 1 (Value.int IntKind.u8 0) 1 := ⟨fun _ => by kernel_rfl, fun _ => by kernel_rfl, fun _ => by kernel_rfl, ⟨Tryd.t5, by kernel_rfl, rfl, rfl, rfl⟩, rfl⟩
instance und9 : Und P 9 TypeDesc.string := ⟨Tryd.underlying9⟩
instance ty9 : Ty P 9 false 1 (Value.string (ByteArray.mk #[])) 16 := ⟨fun _ => by kernel_rfl, fun _ => by kernel_rfl, fun _ => by kernel_rfl, ⟨Tryd.t9, by kernel_rfl, rfl, rfl, rfl⟩, rfl⟩
instance und21 : Und P 21 (TypeDesc.int IntKind.i32) := ⟨Tryd.underlying21⟩
instance ty21 : Ty P 21 false 1 (Value.int IntKind.i32 0) 4 := ⟨fun _ => by kernel_rfl, fun _ => by kernel_rfl, fun _ => by kernel_rfl, ⟨Tryd.t21, by kernel_rfl, rfl, rfl, rfl⟩, rfl⟩
instance ty28 : Ty P 28 true 3 (Value.agg #[(Value.int IntKind.i64 0), (Value.int IntKind.i64 0), (Value.int IntKind.i64 0)]) 24 := ⟨fun _ => by kernel_rfl, fun _ => by kernel_rfl, fun _ => by kernel_rfl, ⟨Tryd.t28, by kernel_rfl, rfl, rfl, rfl⟩, rfl⟩
instance fld28_0 : Fld P 28 0 0 := ⟨fun _ _ _ => by kernel_rfl⟩
instance fld28_1 : Fld P 28 1 1 := ⟨fun _ _ _ => by kernel_rfl⟩
instance fld28_2 : Fld P 28 2 2 := ⟨fun _ _ _ => by kernel_rfl⟩
instance und29 : Und P 29 (TypeDesc.slice 44) := ⟨Tryd.underlying29⟩
instance ty29 : Ty P 29 false 1 (Value.slice none 0 0) 24 := ⟨fun _ => by kernel_rfl, fun _ => by kernel_rfl, fun _ => by kernel_rfl, ⟨Tryd.t29, by kernel_rfl, rfl, rfl, rfl⟩, rfl⟩
instance ty31 : Ty P 31 true 4 (Value.agg #[(Value.int IntKind.i64 0), (Value.int IntKind.i64 0), (Value.int IntKind.i64 0), (Value.slice none 0 0)]) 48 := ⟨fun _ => by kernel_rfl, fun _ => by kernel_rfl, fun _ => by kernel_rfl, ⟨Tryd.t31, by kernel_rfl, rfl, rfl, rfl⟩, rfl⟩
instance fld31_0 : Fld P 31 0 0 := ⟨fun _ _ _ => by kernel_rfl⟩
instance fld31_1 : Fld P 31 1 3 := ⟨fun _ _ _ => by kernel_rfl⟩
instance und32 : Und P 32 (TypeDesc.int IntKind.i64) := ⟨Tryd.underlying32⟩
instance ty32 : Ty P 32 false 1 (Value.int IntKind.i64 0) 8 := ⟨fun _ => by kernel_rfl, fun _ => by kernel_rfl, fun _ => by kernel_rfl, ⟨Tryd.t32, by kernel_rfl, rfl, rfl, rfl⟩, rfl⟩
instance und41 : Und P 41 (TypeDesc.slice 5) := ⟨Tryd.underlying41⟩
instance ty41 : Ty P 41 false 1 (Value.slice none 0 0) 24 := ⟨fun _ => by kernel_rfl, fun _ => by kernel_rfl, fun _ => by kernel_rfl, ⟨Tryd.t41, by kernel_rfl, rfl, rfl, rfl⟩, rfl⟩
instance und42 : Und P 42 (TypeDesc.slice 3) := ⟨Tryd.underlying42⟩
instance ty42 : Ty P 42 false 1 (Value.slice none 0 0) 24 := ⟨fun _ => by kernel_rfl, fun _ => by kernel_rfl, fun _ => by kernel_rfl, ⟨Tryd.t42, by kernel_rfl, rfl, rfl, rfl⟩, rfl⟩
instance ty44 : Ty P 44 true 5 (Value.agg #[(Value.int IntKind.i64 0), (Value.int IntKind.i64 0), (Value.slice none 0 0), (Value.int IntKind.i64 0), (Value.slice none 0 0)]) 72 := ⟨fun _ => by kernel_rfl, fun _ => by kernel_rfl, fun _ => by kernel_rfl, ⟨Tryd.t44, by kernel_rfl, rfl, rfl, rfl⟩, rfl⟩
instance fld44_0 : Fld P 44 0 0 := ⟨fun _ _ _ => by kernel_rfl⟩
instance fld44_1 : Fld P 44 1 1 := ⟨fun _ _ _ => by kernel_rfl⟩
instance fld44_2 : Fld P 44 2 2 := ⟨fun _ _ _ => by kernel_rfl⟩
instance fld44_3 : Fld P 44 3 3 := ⟨fun _ _ _ => by kernel_rfl⟩
instance fld44_4 : Fld P 44 4 4 := ⟨fun _ _ _ => by kernel_rfl⟩
instance und50 : Und P 50 (TypeDesc.slice 9) := ⟨Tryd.underlying50⟩
instance ty50 : Ty P 50 false 1 (Value.slice none 0 0) 24 := ⟨fun _ => by kernel_rfl, fun _ => by kernel_rfl, fun _ => by kernel_rfl, ⟨Tryd.t50, by kernel_rfl, rfl, rfl, rfl⟩, rfl⟩
instance ty73 : Ty P 73 true 2 (Value.agg #[(Value.pointer none), (Value.slice none 0 0)]) 32 := ⟨fun _ => by kernel_rfl, fun _ => by kernel_rfl, fun _ => by kernel_rfl, ⟨Tryd.t73, by kernel_rfl, rfl, rfl, rfl⟩, rfl⟩
instance fld73_0 : Fld P 73 0 0 := ⟨fun _ _ _ => by kernel_rfl⟩
instance fld73_1 : Fld P 73 1 1 := ⟨fun _ _ _ => by kernel_rfl⟩
instance ty87 : Ty P 87 true 1 (Value.agg #[(Value.int IntKind.i64 0)]) 8 := ⟨fun _ => by kernel_rfl, fun _ => by kernel_rfl, fun _ => by kernel_rfl, ⟨Tryd.t87, by kernel_rfl, rfl, rfl, rfl⟩, rfl⟩
instance fld87_0 : Fld P 87 0 0 := ⟨fun _ _ _ => by kernel_rfl⟩
end Go.Proofs.YtdnnamaimgijpaaDoor
