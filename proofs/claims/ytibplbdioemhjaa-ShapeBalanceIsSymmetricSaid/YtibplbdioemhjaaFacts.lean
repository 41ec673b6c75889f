/-
  Facts on the types and functions of the translation that the walks use: sizes, places of fields, zero values; that a call enters the function. Written by a program (wip/gen.py).
-/
import Derived.Test.YtibplbdioemhjaaVc
import Derived.Test.YtibplbdioemhjaaChecked
namespace Go.Proofs
open Go.Vc
theorem Try.follows : Try.prog.follows .mixedOrders = true := by kernel_rfl
instance Try.uty2 : UTy Try.prog 2 (.int .i64) := ⟨Try.underlying2⟩
instance Try.sca2 : Scalar Try.prog 2 := scalar_of Try.underlying2 rfl (by kernel_rfl)
instance Try.zero2 : Zero Try.prog 2 [.int .i64 0] := ⟨.int .i64 0, fun _ => by kernel_rfl, rfl⟩
instance Try.uty3 : UTy Try.prog 3 (.int .i64) := ⟨Try.underlying3⟩
instance Try.sca3 : Scalar Try.prog 3 := scalar_of Try.underlying3 rfl (by kernel_rfl)
instance Try.zero3 : Zero Try.prog 3 [.int .i64 0] := ⟨.int .i64 0, fun _ => by kernel_rfl, rfl⟩
instance Try.uty4 : UTy Try.prog 4 .bool := ⟨Try.underlying4⟩
instance Try.sca4 : Scalar Try.prog 4 := scalar_of Try.underlying4 rfl (by kernel_rfl)
instance Try.zero4 : Zero Try.prog 4 [.bool false] := ⟨.bool false, fun _ => by kernel_rfl, rfl⟩
instance Try.uty5 : UTy Try.prog 5 (.int .u8) := ⟨Try.underlying5⟩
instance Try.sca5 : Scalar Try.prog 5 := scalar_of Try.underlying5 rfl (by kernel_rfl)
instance Try.zero5 : Zero Try.prog 5 [.int .u8 0] := ⟨.int .u8 0, fun _ => by kernel_rfl, rfl⟩
instance Try.uty9 : UTy Try.prog 9 .string := ⟨Try.underlying9⟩
instance Try.sca9 : Scalar Try.prog 9 := scalar_of Try.underlying9 rfl (by kernel_rfl)
instance Try.zero9 : Zero Try.prog 9 [.string .empty] := ⟨.string .empty, fun _ => by kernel_rfl, rfl⟩
instance Try.uty12 : UTy Try.prog 12 (.int .u64) := ⟨Try.underlying12⟩
instance Try.sca12 : Scalar Try.prog 12 := scalar_of Try.underlying12 rfl (by kernel_rfl)
instance Try.zero12 : Zero Try.prog 12 [.int .u64 0] := ⟨.int .u64 0, fun _ => by kernel_rfl, rfl⟩
instance Try.uty15 : UTy Try.prog 15 (.pointer 33) := ⟨Try.underlying15⟩
instance Try.sca15 : Scalar Try.prog 15 := scalar_of Try.underlying15 rfl (by kernel_rfl)
instance Try.zero15 : Zero Try.prog 15 [.pointer none] := ⟨.pointer none, fun _ => by kernel_rfl, rfl⟩
instance Try.uty16 : UTy Try.prog 16 (.pointer 36) := ⟨Try.underlying16⟩
instance Try.sca16 : Scalar Try.prog 16 := scalar_of Try.underlying16 rfl (by kernel_rfl)
instance Try.zero16 : Zero Try.prog 16 [.pointer none] := ⟨.pointer none, fun _ => by kernel_rfl, rfl⟩
instance Try.uty17 : UTy Try.prog 17 (.pointer 46) := ⟨Try.underlying17⟩
instance Try.sca17 : Scalar Try.prog 17 := scalar_of Try.underlying17 rfl (by kernel_rfl)
instance Try.zero17 : Zero Try.prog 17 [.pointer none] := ⟨.pointer none, fun _ => by kernel_rfl, rfl⟩
instance Try.uty21 : UTy Try.prog 21 (.int .i32) := ⟨Try.underlying21⟩
instance Try.sca21 : Scalar Try.prog 21 := scalar_of Try.underlying21 rfl (by kernel_rfl)
instance Try.zero21 : Zero Try.prog 21 [.int .i32 0] := ⟨.int .i32 0, fun _ => by kernel_rfl, rfl⟩
instance Try.uty29 : UTy Try.prog 29 (.array 81 3) := ⟨Try.underlying29⟩
instance Try.agg29 : Agg Try.prog 29 81 := agg_of Try.underlying29 rfl (by kernel_rfl)
instance Try.uty34 : UTy Try.prog 34 (.array 0 16) := ⟨Try.underlying34⟩
instance Try.zero34 : Zero Try.prog 34 [] := ⟨.agg #[], fun _ => by kernel_rfl, rfl⟩
instance Try.uty38 : UTy Try.prog 38 (.int .u32) := ⟨Try.underlying38⟩
instance Try.sca38 : Scalar Try.prog 38 := scalar_of Try.underlying38 rfl (by kernel_rfl)
instance Try.zero38 : Zero Try.prog 38 [.int .u32 0] := ⟨.int .u32 0, fun _ => by kernel_rfl, rfl⟩
instance Try.uty42 : UTy Try.prog 42 (.pointer 5) := ⟨Try.underlying42⟩
instance Try.sca42 : Scalar Try.prog 42 := scalar_of Try.underlying42 rfl (by kernel_rfl)
instance Try.zero42 : Zero Try.prog 42 [.pointer none] := ⟨.pointer none, fun _ => by kernel_rfl, rfl⟩
instance Try.agg45 : Agg Try.prog 45 11 := agg_of Try.underlying45 rfl (by kernel_rfl)
instance Try.fld45_0 : FieldOff Try.prog 45 0 0 := field_of (m := 1) Try.underlying45 (by kernel_rfl) rfl
instance Try.fld45_1 : FieldOff Try.prog 45 1 1 := field_of (m := 1) Try.underlying45 (by kernel_rfl) rfl
instance Try.fld45_2 : FieldOff Try.prog 45 2 2 := field_of (m := 1) Try.underlying45 (by kernel_rfl) rfl
instance Try.fld45_3 : FieldOff Try.prog 45 3 3 := field_of (m := 1) Try.underlying45 (by kernel_rfl) rfl
instance Try.fld45_4 : FieldOff Try.prog 45 4 4 := field_of (m := 1) Try.underlying45 (by kernel_rfl) rfl
instance Try.fld45_5 : FieldOff Try.prog 45 5 5 := field_of (m := 1) Try.underlying45 (by kernel_rfl) rfl
instance Try.fld45_6 : FieldOff Try.prog 45 6 6 := field_of (m := 1) Try.underlying45 (by kernel_rfl) rfl
instance Try.fld45_7 : FieldOff Try.prog 45 7 7 := field_of (m := 1) Try.underlying45 (by kernel_rfl) rfl
instance Try.fld45_8 : FieldOff Try.prog 45 8 8 := field_of (m := 1) Try.underlying45 (by kernel_rfl) rfl
instance Try.fld45_9 : FieldOff Try.prog 45 9 9 := field_of (m := 1) Try.underlying45 (by kernel_rfl) rfl
instance Try.fld45_10 : FieldOff Try.prog 45 10 10 := field_of (m := 1) Try.underlying45 (by kernel_rfl) rfl
instance Try.zero45 : Zero Try.prog 45 [.int .u64 0, .int .u64 0, .int .u32 0, .int .u8 0, .int .u8 0, .int .u8 0, .int .u8 0, .nilFunc, .pointer none, .int .i32 0, .int .i32 0] := ⟨.agg #[.int .u64 0, .int .u64 0, .int .u32 0, .int .u8 0, .int .u8 0, .int .u8 0, .int .u8 0, .nilFunc, .pointer none, .int .i32 0, .int .i32 0], fun _ => by kernel_rfl, rfl⟩
instance Try.ent3 : Enters Try.prog 3 := enters_of Try.func3 rfl (by kernel_rfl)
instance Try.ent4 : Enters Try.prog 4 := enters_of Try.func4 rfl (by kernel_rfl)
instance Try.ent5 : Enters Try.prog 5 := enters_of Try.func5 rfl (by kernel_rfl)
instance Try.ent6 : Enters Try.prog 6 := enters_of Try.func6 rfl (by kernel_rfl)
instance Try.ent7 : Enters Try.prog 7 := enters_of Try.func7 rfl (by kernel_rfl)
instance Try.ent8 : Enters Try.prog 8 := enters_of Try.func8 rfl (by kernel_rfl)
instance Try.ent9 : Enters Try.prog 9 := enters_of Try.func9 rfl (by kernel_rfl)
instance Try.ent10 : Enters Try.prog 10 := enters_of Try.func10 rfl (by kernel_rfl)
instance Try.ent11 : Enters Try.prog 11 := enters_of Try.func11 rfl (by kernel_rfl)
instance Try.ent12 : Enters Try.prog 12 := enters_of Try.func12 rfl (by kernel_rfl)
instance Try.ent13 : Enters Try.prog 13 := enters_of Try.func13 rfl (by kernel_rfl)
instance Try.ent14 : Enters Try.prog 14 := enters_of Try.func14 rfl (by kernel_rfl)
end Go.Proofs
