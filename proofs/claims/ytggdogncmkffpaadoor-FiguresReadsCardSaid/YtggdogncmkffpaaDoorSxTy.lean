/- The types of this seat, for the rules of Sx. Conditions: none. -/
import Derived.Test.YtggdogncmkffpaaDoorSxMem
import Derived.Test.YtggdogncmkffpaaDoorProg
set_option linter.unusedVariables false
set_option maxRecDepth 100000
namespace Go.Proofs.YtggdogncmkffpaaDoor
open Go Go.Sx Go.Proofs
noncomputable abbrev P : Program := Tryd.prog
theorem mixed : P.follows .mixedOrders = true := by kernel_rfl
instance und3 : Und P 3 (TypeDesc.int IntKind.i64) := ⟨Tryd.underlying3⟩
instance ty3 : Ty P 3 false 1 (Value.int IntKind.i64 0) 8 := ⟨fun _ => by kernel_rfl, fun _ => by kernel_rfl, fun _ => by kernel_rfl, ⟨Tryd.t3, by kernel_rfl, rfl, rfl, rfl⟩, rfl⟩
instance und4 : Und P 4 TypeDesc.bool := ⟨Tryd.underlying4⟩
instance ty4 : Ty P 4 false 1 (Value.bool false) 1 := ⟨fun _ => by kernel_rfl, fun _ => by kernel_rfl, fun _ => by kernel_rfl, ⟨Tryd.t4, by kernel_rfl, rfl, rfl, rfl⟩, rfl⟩
instance und5 : Und P 5 (TypeDesc.int IntKind.u8) := ⟨Tryd.underlying5⟩
instance ty5 : Ty P 5 false 1 (Value.int IntKind.u8 0) 1 := ⟨fun _ => by kernel_rfl, fun _ => by kernel_rfl, fun _ => by kernel_rfl, ⟨Tryd.t5, by kernel_rfl, rfl, rfl, rfl⟩, rfl⟩
instance und9 : Und P 9 TypeDesc.string := ⟨Tryd.underlying9⟩
instance ty9 : Ty P 9 false 1 (Value.string (ByteArray.mk #[])) 16 := ⟨fun _ => by kernel_rfl, fun _ => by kernel_rfl, fun _ => by kernel_rfl, ⟨Tryd.t9, by kernel_rfl, rfl, rfl, rfl⟩, rfl⟩
instance ty23 : Ty P 23 true 5 (Value.agg #[(Value.int IntKind.i64 0), (Value.int IntKind.i64 0), (Value.int IntKind.i64 0), (Value.int IntKind.i64 0), (Value.int IntKind.i64 0)]) 40 := ⟨fun _ => by kernel_rfl, fun _ => by kernel_rfl, fun _ => by kernel_rfl, ⟨Tryd.t23, by kernel_rfl, rfl, rfl, rfl⟩, rfl⟩
instance fld23_0 : Fld P 23 0 0 := ⟨fun _ _ _ => by kernel_rfl⟩
instance fld23_1 : Fld P 23 1 1 := ⟨fun _ _ _ => by kernel_rfl⟩
instance fld23_2 : Fld P 23 2 2 := ⟨fun _ _ _ => by kernel_rfl⟩
instance fld23_3 : Fld P 23 3 3 := ⟨fun _ _ _ => by kernel_rfl⟩
instance fld23_4 : Fld P 23 4 4 := ⟨fun _ _ _ => by kernel_rfl⟩
instance und24 : Und P 24 (TypeDesc.slice 5) := ⟨Tryd.underlying24⟩
instance ty24 : Ty P 24 false 1 (Value.slice none 0 0) 24 := ⟨fun _ => by kernel_rfl, fun _ => by kernel_rfl, fun _ => by kernel_rfl, ⟨Tryd.t24, by kernel_rfl, rfl, rfl, rfl⟩, rfl⟩
instance ty26 : Ty P 26 true 16 (Value.agg #[(Value.int IntKind.i64 0), (Value.int IntKind.i64 0), (Value.int IntKind.i64 0), (Value.int IntKind.i64 0), (Value.int IntKind.i64 0), (Value.int IntKind.i64 0), (Value.int IntKind.i64 0), (Value.int IntKind.i64 0), (Value.int IntKind.i64 0), (Value.int IntKind.i64 0), (Value.int IntKind.i64 0), (Value.int IntKind.i64 0), (Value.int IntKind.i64 0), (Value.int IntKind.i64 0), (Value.string (ByteArray.mk #[])), (Value.slice none 0 0)]) 152 := ⟨fun _ => by kernel_rfl, fun _ => by kernel_rfl, fun _ => by kernel_rfl, ⟨Tryd.t26, by kernel_rfl, rfl, rfl, rfl⟩, rfl⟩
instance fld26_0 : Fld P 26 0 0 := ⟨fun _ _ _ => by kernel_rfl⟩
instance fld26_1 : Fld P 26 1 1 := ⟨fun _ _ _ => by kernel_rfl⟩
instance fld26_2 : Fld P 26 2 2 := ⟨fun _ _ _ => by kernel_rfl⟩
instance fld26_3 : Fld P 26 3 3 := ⟨fun _ _ _ => by kernel_rfl⟩
instance fld26_4 : Fld P 26 4 4 := ⟨fun _ _ _ => by kernel_rfl⟩
instance fld26_5 : Fld P 26 5 5 := ⟨fun _ _ _ => by kernel_rfl⟩
instance fld26_6 : Fld P 26 6 6 := ⟨fun _ _ _ => by kernel_rfl⟩
instance fld26_7 : Fld P 26 7 7 := ⟨fun _ _ _ => by kernel_rfl⟩
instance fld26_8 : Fld P 26 8 8 := ⟨fun _ _ _ => by kernel_rfl⟩
instance fld26_9 : Fld P 26 9 9 := ⟨fun _ _ _ => by kernel_rfl⟩
instance fld26_10 : Fld P 26 10 14 := ⟨fun _ _ _ => by kernel_rfl⟩
instance fld26_11 : Fld P 26 11 15 := ⟨fun _ _ _ => by kernel_rfl⟩
instance ty28 : Ty P 28 true 5 (Value.agg #[(Value.int IntKind.i64 0), (Value.int IntKind.i64 0), (Value.int IntKind.i64 0), (Value.int IntKind.i64 0), (Value.int IntKind.i64 0)]) 40 := ⟨fun _ => by kernel_rfl, fun _ => by kernel_rfl, fun _ => by kernel_rfl, ⟨Tryd.t28, by kernel_rfl, rfl, rfl, rfl⟩, rfl⟩
instance fld28_0 : Fld P 28 0 0 := ⟨fun _ _ _ => by kernel_rfl⟩
instance fld28_1 : Fld P 28 1 1 := ⟨fun _ _ _ => by kernel_rfl⟩
instance fld28_2 : Fld P 28 2 2 := ⟨fun _ _ _ => by kernel_rfl⟩
instance fld28_3 : Fld P 28 3 3 := ⟨fun _ _ _ => by kernel_rfl⟩
instance fld28_4 : Fld P 28 4 4 := ⟨fun _ _ _ => by kernel_rfl⟩
instance ty30 : Ty P 30 true 14 (Value.agg #[(Value.string (ByteArray.mk #[])), (Value.int IntKind.i64 0), (Value.int IntKind.i64 0), (Value.int IntKind.i64 0), (Value.int IntKind.i64 0), (Value.int IntKind.i64 0), (Value.int IntKind.i64 0), (Value.int IntKind.i64 0), (Value.int IntKind.i64 0), (Value.int IntKind.i64 0), (Value.int IntKind.i64 0), (Value.int IntKind.i64 0), (Value.int IntKind.i64 0), (Value.int IntKind.i64 0)]) 120 := ⟨fun _ => by kernel_rfl, fun _ => by kernel_rfl, fun _ => by kernel_rfl, ⟨Tryd.t30, by kernel_rfl, rfl, rfl, rfl⟩, rfl⟩
instance fld30_0 : Fld P 30 0 0 := ⟨fun _ _ _ => by kernel_rfl⟩
instance fld30_1 : Fld P 30 1 1 := ⟨fun _ _ _ => by kernel_rfl⟩
instance fld30_2 : Fld P 30 2 6 := ⟨fun _ _ _ => by kernel_rfl⟩
instance fld30_3 : Fld P 30 3 7 := ⟨fun _ _ _ => by kernel_rfl⟩
instance fld30_4 : Fld P 30 4 8 := ⟨fun _ _ _ => by kernel_rfl⟩
instance fld30_5 : Fld P 30 5 9 := ⟨fun _ _ _ => by kernel_rfl⟩
instance fld30_6 : Fld P 30 6 10 := ⟨fun _ _ _ => by kernel_rfl⟩
instance fld30_7 : Fld P 30 7 11 := ⟨fun _ _ _ => by kernel_rfl⟩
instance fld30_8 : Fld P 30 8 12 := ⟨fun _ _ _ => by kernel_rfl⟩
instance fld30_9 : Fld P 30 9 13 := ⟨fun _ _ _ => by kernel_rfl⟩
instance und31 : Und P 31 (TypeDesc.array 26 3) := ⟨Tryd.underlying31⟩
instance ty31 : Ty P 31 true 26 (Value.agg #[(Value.int IntKind.i64 0), (Value.int IntKind.i64 0), (Value.int IntKind.i64 0), (Value.int IntKind.i64 0), (Value.int IntKind.i64 0), (Value.int IntKind.i64 0), (Value.int IntKind.i64 0), (Value.int IntKind.i64 0), (Value.int IntKind.i64 0), (Value.int IntKind.i64 0), (Value.int IntKind.i64 0), (Value.int IntKind.i64 0), (Value.int IntKind.i64 0), (Value.int IntKind.i64 0), (Value.int IntKind.i64 0), (Value.int IntKind.i64 0), (Value.int IntKind.i64 0), (Value.int IntKind.i64 0), (Value.int IntKind.i64 0), (Value.int IntKind.i64 0), (Value.int IntKind.i64 0), (Value.int IntKind.i64 0), (Value.int IntKind.i64 0), (Value.int IntKind.i64 0), (Value.int IntKind.i64 0), (Value.int IntKind.i64 0)]) 208 := ⟨fun _ => by kernel_rfl, fun _ => by kernel_rfl, fun _ => by kernel_rfl, ⟨Tryd.t31, by kernel_rfl, rfl, rfl, rfl⟩, rfl⟩
instance ty33 : Ty P 33 true 49 (Value.agg #[(Value.int IntKind.i64 0), (Value.int IntKind.i64 0), (Value.int IntKind.i64 0), (Value.int IntKind.i64 0), (Value.int IntKind.i64 0), (Value.int IntKind.i64 0), (Value.int IntKind.i64 0), (Value.int IntKind.i64 0), (Value.int IntKind.i64 0), (Value.int IntKind.i64 0), (Value.int IntKind.i64 0), (Value.int IntKind.i64 0), (Value.int IntKind.i64 0), (Value.int IntKind.i64 0), (Value.int IntKind.i64 0), (Value.int IntKind.i64 0), (Value.int IntKind.i64 0), (Value.int IntKind.i64 0), (Value.int IntKind.i64 0), (Value.int IntKind.i64 0), (Value.int IntKind.i64 0), (Value.int IntKind.i64 0), (Value.int IntKind.i64 0), (Value.int IntKind.i64 0), (Value.int IntKind.i64 0), (Value.int IntKind.i64 0), (Value.int IntKind.i64 0), (Value.int IntKind.i64 0), (Value.int IntKind.i64 0), (Value.int IntKind.i64 0), (Value.int IntKind.i64 0), (Value.int IntKind.i64 0), (Value.int IntKind.i64 0), (Value.int IntKind.i64 0), (Value.int IntKind.i64 0), (Value.int IntKind.i64 0), (Value.int IntKind.i64 0), (Value.int IntKind.i64 0), (Value.int IntKind.i64 0), (Value.int IntKind.i64 0), (Value.int IntKind.i64 0), (Value.int IntKind.i64 0), (Value.int IntKind.i64 0), (Value.int IntKind.i64 0), (Value.int IntKind.i64 0), (Value.int IntKind.i64 0), (Value.int IntKind.i64 0), (Value.int IntKind.i64 0), (Value.bool false)]) 392 := ⟨fun _ => by kernel_rfl, fun _ => by kernel_rfl, fun _ => by kernel_rfl, ⟨Tryd.t33, by kernel_rfl, rfl, rfl, rfl⟩, rfl⟩
instance fld33_0 : Fld P 33 0 0 := ⟨fun _ _ _ => by kernel_rfl⟩
instance fld33_1 : Fld P 33 1 1 := ⟨fun _ _ _ => by kernel_rfl⟩
instance fld33_2 : Fld P 33 2 2 := ⟨fun _ _ _ => by kernel_rfl⟩
instance fld33_3 : Fld P 33 3 7 := ⟨fun _ _ _ => by kernel_rfl⟩
instance fld33_4 : Fld P 33 4 33 := ⟨fun _ _ _ => by kernel_rfl⟩
instance fld33_5 : Fld P 33 5 34 := ⟨fun _ _ _ => by kernel_rfl⟩
instance fld33_6 : Fld P 33 6 35 := ⟨fun _ _ _ => by kernel_rfl⟩
instance fld33_7 : Fld P 33 7 36 := ⟨fun _ _ _ => by kernel_rfl⟩
instance fld33_8 : Fld P 33 8 37 := ⟨fun _ _ _ => by kernel_rfl⟩
instance fld33_9 : Fld P 33 9 38 := ⟨fun _ _ _ => by kernel_rfl⟩
instance fld33_10 : Fld P 33 10 39 := ⟨fun _ _ _ => by kernel_rfl⟩
instance fld33_11 : Fld P 33 11 40 := ⟨fun _ _ _ => by kernel_rfl⟩
instance fld33_12 : Fld P 33 12 41 := ⟨fun _ _ _ => by kernel_rfl⟩
instance fld33_13 : Fld P 33 13 42 := ⟨fun _ _ _ => by kernel_rfl⟩
instance fld33_14 : Fld P 33 14 43 := ⟨fun _ _ _ => by kernel_rfl⟩
instance fld33_15 : Fld P 33 15 44 := ⟨fun _ _ _ => by kernel_rfl⟩
instance fld33_16 : Fld P 33 16 45 := ⟨fun _ _ _ => by kernel_rfl⟩
instance fld33_17 : Fld P 33 17 46 := ⟨fun _ _ _ => by kernel_rfl⟩
instance fld33_18 : Fld P 33 18 47 := ⟨fun _ _ _ => by kernel_rfl⟩
instance fld33_19 : Fld P 33 19 48 := ⟨fun _ _ _ => by kernel_rfl⟩
instance und38 : Und P 38 (TypeDesc.slice 44) := ⟨Tryd.underlying38⟩
instance ty38 : Ty P 38 false 1 (Value.slice none 0 0) 24 := ⟨fun _ => by kernel_rfl, fun _ => by kernel_rfl, fun _ => by kernel_rfl, ⟨Tryd.t38, by kernel_rfl, rfl, rfl, rfl⟩, rfl⟩
instance und39 : Und P 39 (TypeDesc.int IntKind.i64) := ⟨Tryd.underlying39⟩
instance ty39 : Ty P 39 false 1 (Value.int IntKind.i64 0) 8 := ⟨fun _ => by kernel_rfl, fun _ => by kernel_rfl, fun _ => by kernel_rfl, ⟨Tryd.t39, by kernel_rfl, rfl, rfl, rfl⟩, rfl⟩
instance ty44 : Ty P 44 true 2 (Value.agg #[(Value.string (ByteArray.mk #[])), (Value.string (ByteArray.mk #[]))]) 32 := ⟨fun _ => by kernel_rfl, fun _ => by kernel_rfl, fun _ => by kernel_rfl, ⟨Tryd.t44, by kernel_rfl, rfl, rfl, rfl⟩, rfl⟩
instance fld44_0 : Fld P 44 0 0 := ⟨fun _ _ _ => by kernel_rfl⟩
instance fld44_1 : Fld P 44 1 1 := ⟨fun _ _ _ => by kernel_rfl⟩
instance ty49 : Ty P 49 false 1 Value.nilFunc 8 := ⟨fun _ => by kernel_rfl, fun _ => by kernel_rfl, fun _ => by kernel_rfl, ⟨Tryd.t49, by kernel_rfl, rfl, rfl, rfl⟩, rfl⟩
instance ty50 : Ty P 50 false 1 Value.nilFunc 8 := ⟨fun _ => by kernel_rfl, fun _ => by kernel_rfl, fun _ => by kernel_rfl, ⟨Tryd.t50, by kernel_rfl, rfl, rfl, rfl⟩, rfl⟩
instance und55 : Und P 55 (TypeDesc.slice 9) := ⟨Tryd.underlying55⟩
instance ty55 : Ty P 55 false 1 (Value.slice none 0 0) 24 := ⟨fun _ => by kernel_rfl, fun _ => by kernel_rfl, fun _ => by kernel_rfl, ⟨Tryd.t55, by kernel_rfl, rfl, rfl, rfl⟩, rfl⟩
instance ty63 : Ty P 63 true 2 (Value.agg #[(Value.string (ByteArray.mk #[])), (Value.string (ByteArray.mk #[]))]) 32 := ⟨fun _ => by kernel_rfl, fun _ => by kernel_rfl, fun _ => by kernel_rfl, ⟨Tryd.t63, by kernel_rfl, rfl, rfl, rfl⟩, rfl⟩
instance fld63_0 : Fld P 63 0 0 := ⟨fun _ _ _ => by kernel_rfl⟩
instance fld63_1 : Fld P 63 1 1 := ⟨fun _ _ _ => by kernel_rfl⟩
instance ty70 : Ty P 70 true 3 (Value.agg #[(Value.slice none 0 0), (Value.int IntKind.i64 0), (Value.int IntKind.i8 0)]) 40 := ⟨fun _ => by kernel_rfl, fun _ => by kernel_rfl, fun _ => by kernel_rfl, ⟨Tryd.t70, by kernel_rfl, rfl, rfl, rfl⟩, rfl⟩
instance fld70_0 : Fld P 70 0 0 := ⟨fun _ _ _ => by kernel_rfl⟩
instance fld70_1 : Fld P 70 1 1 := ⟨fun _ _ _ => by kernel_rfl⟩
instance fld70_2 : Fld P 70 2 2 := ⟨fun _ _ _ => by kernel_rfl⟩
instance und79 : Und P 79 (TypeDesc.array 26 63) := ⟨Tryd.underlying79⟩
instance ty79 : Ty P 79 true 52 (Value.agg #[(Value.string (ByteArray.mk #[])), (Value.string (ByteArray.mk #[])), (Value.string (ByteArray.mk #[])), (Value.string (ByteArray.mk #[])), (Value.string (ByteArray.mk #[])), (Value.string (ByteArray.mk #[])), (Value.string (ByteArray.mk #[])), (Value.string (ByteArray.mk #[])), (Value.string (ByteArray.mk #[])), (Value.string (ByteArray.mk #[])), (Value.string (ByteArray.mk #[])), (Value.string (ByteArray.mk #[])), (Value.string (ByteArray.mk #[])), (Value.string (ByteArray.mk #[])), (Value.string (ByteArray.mk #[])), (Value.string (ByteArray.mk #[])), (Value.string (ByteArray.mk #[])), (Value.string (ByteArray.mk #[])), (Value.string (ByteArray.mk #[])), (Value.string (ByteArray.mk #[])), (Value.string (ByteArray.mk #[])), (Value.string (ByteArray.mk #[])), (Value.string (ByteArray.mk #[])), (Value.string (ByteArray.mk #[])), (Value.string (ByteArray.mk #[])), (Value.string (ByteArray.mk #[])), (Value.string (ByteArray.mk #[])), (Value.string (ByteArray.mk #[])), (Value.string (ByteArray.mk #[])), (Value.string (ByteArray.mk #[])), (Value.string (ByteArray.mk #[])), (Value.string (ByteArray.mk #[])), (Value.string (ByteArray.mk #[])), (Value.string (ByteArray.mk #[])), (Value.string (ByteArray.mk #[])), (Value.string (ByteArray.mk #[])), (Value.string (ByteArray.mk #[])), (Value.string (ByteArray.mk #[])), (Value.string (ByteArray.mk #[])), (Value.string (ByteArray.mk #[])), (Value.string (ByteArray.mk #[])), (Value.string (ByteArray.mk #[])), (Value.string (ByteArray.mk #[])), (Value.string (ByteArray.mk #[])), (Value.string (ByteArray.mk #[])), (Value.string (ByteArray.mk #[])), (Value.string (ByteArray.mk #[])), (Value.string (ByteArray.mk #[])), (Value.string (ByteArray.mk #[])), (Value.string (ByteArray.mk #[])), (Value.string (ByteArray.mk #[])), (Value.string (ByteArray.mk #[]))]) 832 := ⟨fun _ => by kernel_rfl, fun _ => by kernel_rfl, fun _ => by kernel_rfl, ⟨Tryd.t79, by kernel_rfl, rfl, rfl, rfl⟩, rfl⟩
end Go.Proofs.YtggdogncmkffpaaDoor
