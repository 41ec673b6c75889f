/-
  Facts on the types and functions of the translation that the walks use: sizes, places of fields, zero values; that a call enters the function. Written by a program (wip/gen.py).
-/
import Derived.Test.YtfgkleggbcpinaaVc
import Derived.Test.YtfgkleggbcpinaaChecked
namespace Go.Proofs
open Go.Vc
theorem Try.follows : Try.prog.follows .mixedOrders = true := by kernel_rfl
instance Try.uty2 : UTy Try.prog 2 (.int .i64) := ⟨Try.underlying2⟩
instance Try.sca2 : Scalar Try.prog 2 := scalar_of Try.underlying2 rfl (by kernel_rfl)
instance Try.zero2 : Zero Try.prog 2 [.int .i64 0] := ⟨.int .i64 0, fun _ => by kernel_rfl, rfl⟩
instance Try.uty3 : UTy Try.prog 3 (.int .i64) := ⟨Try.underlying3⟩
instance Try.sca3 : Scalar Try.prog 3 := scalar_of Try.underlying3 rfl (by kernel_rfl)
instance Try.zero3 : Zero Try.prog 3 [.int .i64 0] := ⟨.int .i64 0, fun _ => by kernel_rfl, rfl⟩
instance Try.uty4 : UTy Try.prog 4 .bool := ⟨Try.underlying4⟩
instance Try.sca4 : Scalar Try.prog 4 := scalar_of Try.underlying4 rfl (by kernel_rfl)
instance Try.zero4 : Zero Try.prog 4 [.bool false] := ⟨.bool false, fun _ => by kernel_rfl, rfl⟩
instance Try.uty5 : UTy Try.prog 5 (.int .u8) := ⟨Try.underlying5⟩
instance Try.sca5 : Scalar Try.prog 5 := scalar_of Try.underlying5 rfl (by kernel_rfl)
instance Try.zero5 : Zero Try.prog 5 [.int .u8 0] := ⟨.int .u8 0, fun _ => by kernel_rfl, rfl⟩
instance Try.uty9 : UTy Try.prog 9 .string := ⟨Try.underlying9⟩
instance Try.sca9 : Scalar Try.prog 9 := scalar_of Try.underlying9 rfl (by kernel_rfl)
instance Try.zero9 : Zero Try.prog 9 [.string .empty] := ⟨.string .empty, fun _ => by kernel_rfl, rfl⟩
instance Try.uty12 : UTy Try.prog 12 (.int .u64) := ⟨Try.underlying12⟩
instance Try.sca12 : Scalar Try.prog 12 := scalar_of Try.underlying12 rfl (by kernel_rfl)
instance Try.zero12 : Zero Try.prog 12 [.int .u64 0] := ⟨.int .u64 0, fun _ => by kernel_rfl, rfl⟩
instance Try.uty15 : UTy Try.prog 15 (.pointer 58) := ⟨Try.underlying15⟩
instance Try.sca15 : Scalar Try.prog 15 := scalar_of Try.underlying15 rfl (by kernel_rfl)
instance Try.zero15 : Zero Try.prog 15 [.pointer none] := ⟨.pointer none, fun _ => by kernel_rfl, rfl⟩
instance Try.uty16 : UTy Try.prog 16 (.pointer 61) := ⟨Try.underlying16⟩
instance Try.sca16 : Scalar Try.prog 16 := scalar_of Try.underlying16 rfl (by kernel_rfl)
instance Try.zero16 : Zero Try.prog 16 [.pointer none] := ⟨.pointer none, fun _ => by kernel_rfl, rfl⟩
instance Try.uty17 : UTy Try.prog 17 (.pointer 70) := ⟨Try.underlying17⟩
instance Try.sca17 : Scalar Try.prog 17 := scalar_of Try.underlying17 rfl (by kernel_rfl)
instance Try.zero17 : Zero Try.prog 17 [.pointer none] := ⟨.pointer none, fun _ => by kernel_rfl, rfl⟩
instance Try.uty21 : UTy Try.prog 21 (.int .i32) := ⟨Try.underlying21⟩
instance Try.sca21 : Scalar Try.prog 21 := scalar_of Try.underlying21 rfl (by kernel_rfl)
instance Try.zero21 : Zero Try.prog 21 [.int .i32 0] := ⟨.int .i32 0, fun _ => by kernel_rfl, rfl⟩
instance Try.uty22 : UTy Try.prog 22 (.slice 5) := ⟨Try.underlying22⟩
instance Try.sca22 : Scalar Try.prog 22 := scalar_of Try.underlying22 rfl (by kernel_rfl)
theorem Try.erow22 : (Try.prog.info? 5).map (fun i => (i.zero, i.size, i.bytes)) = some (some (.int .u8 0), 1, 1) := by kernel_rfl
instance Try.elem22 : Elem Try.prog 22 5 1 1 := elem_of Try.underlying22 Try.erow22 rfl
instance Try.zero22 : Zero Try.prog 22 [.slice none 0 0] := ⟨.slice none 0 0, fun _ => by kernel_rfl, rfl⟩
instance Try.uty23 : UTy Try.prog 23 (.int .u32) := ⟨Try.underlying23⟩
instance Try.sca23 : Scalar Try.prog 23 := scalar_of Try.underlying23 rfl (by kernel_rfl)
instance Try.zero23 : Zero Try.prog 23 [.int .u32 0] := ⟨.int .u32 0, fun _ => by kernel_rfl, rfl⟩
instance Try.uty32 : UTy Try.prog 32 (.int .u64) := ⟨Try.underlying32⟩
instance Try.sca32 : Scalar Try.prog 32 := scalar_of Try.underlying32 rfl (by kernel_rfl)
instance Try.zero32 : Zero Try.prog 32 [.int .u64 0] := ⟨.int .u64 0, fun _ => by kernel_rfl, rfl⟩
instance Try.uty34 : UTy Try.prog 34 (.int .i64) := ⟨Try.underlying34⟩
instance Try.sca34 : Scalar Try.prog 34 := scalar_of Try.underlying34 rfl (by kernel_rfl)
instance Try.zero34 : Zero Try.prog 34 [.int .i64 0] := ⟨.int .i64 0, fun _ => by kernel_rfl, rfl⟩
instance Try.uty42 : UTy Try.prog 42 (.slice 22) := ⟨Try.underlying42⟩
instance Try.sca42 : Scalar Try.prog 42 := scalar_of Try.underlying42 rfl (by kernel_rfl)
theorem Try.erow42 : (Try.prog.info? 22).map (fun i => (i.zero, i.size, i.bytes)) = some (some (.slice none 0 0), 1, 24) := by kernel_rfl
instance Try.elem42 : Elem Try.prog 42 22 1 24 := elem_of Try.underlying42 Try.erow42 rfl
instance Try.zero42 : Zero Try.prog 42 [.slice none 0 0] := ⟨.slice none 0 0, fun _ => by kernel_rfl, rfl⟩
instance Try.uty46 : UTy Try.prog 46 (.slice 3) := ⟨Try.underlying46⟩
instance Try.sca46 : Scalar Try.prog 46 := scalar_of Try.underlying46 rfl (by kernel_rfl)
theorem Try.erow46 : (Try.prog.info? 3).map (fun i => (i.zero, i.size, i.bytes)) = some (some (.int .i64 0), 1, 8) := by kernel_rfl
instance Try.elem46 : Elem Try.prog 46 3 1 8 := elem_of Try.underlying46 Try.erow46 rfl
instance Try.zero46 : Zero Try.prog 46 [.slice none 0 0] := ⟨.slice none 0 0, fun _ => by kernel_rfl, rfl⟩
instance Try.uty48 : UTy Try.prog 48 (.array 256 23) := ⟨Try.underlying48⟩
instance Try.agg48 : Agg Try.prog 48 256 := agg_of Try.underlying48 rfl (by kernel_rfl)
instance Try.uty51 : UTy Try.prog 51 (.int .u64) := ⟨Try.underlying51⟩
instance Try.sca51 : Scalar Try.prog 51 := scalar_of Try.underlying51 rfl (by kernel_rfl)
instance Try.zero51 : Zero Try.prog 51 [.int .u64 0] := ⟨.int .u64 0, fun _ => by kernel_rfl, rfl⟩
instance Try.uty59 : UTy Try.prog 59 (.array 0 16) := ⟨Try.underlying59⟩
instance Try.zero59 : Zero Try.prog 59 [] := ⟨.agg #[], fun _ => by kernel_rfl, rfl⟩
instance Try.uty66 : UTy Try.prog 66 (.pointer 5) := ⟨Try.underlying66⟩
instance Try.sca66 : Scalar Try.prog 66 := scalar_of Try.underlying66 rfl (by kernel_rfl)
instance Try.zero66 : Zero Try.prog 66 [.pointer none] := ⟨.pointer none, fun _ => by kernel_rfl, rfl⟩
instance Try.agg69 : Agg Try.prog 69 11 := agg_of Try.underlying69 rfl (by kernel_rfl)
instance Try.fld69_0 : FieldOff Try.prog 69 0 0 := field_of (m := 1) Try.underlying69 (by kernel_rfl) rfl
instance Try.fld69_1 : FieldOff Try.prog 69 1 1 := field_of (m := 1) Try.underlying69 (by kernel_rfl) rfl
instance Try.fld69_2 : FieldOff Try.prog 69 2 2 := field_of (m := 1) Try.underlying69 (by kernel_rfl) rfl
instance Try.fld69_3 : FieldOff Try.prog 69 3 3 := field_of (m := 1) Try.underlying69 (by kernel_rfl) rfl
instance Try.fld69_4 : FieldOff Try.prog 69 4 4 := field_of (m := 1) Try.underlying69 (by kernel_rfl) rfl
instance Try.fld69_5 : FieldOff Try.prog 69 5 5 := field_of (m := 1) Try.underlying69 (by kernel_rfl) rfl
instance Try.fld69_6 : FieldOff Try.prog 69 6 6 := field_of (m := 1) Try.underlying69 (by kernel_rfl) rfl
instance Try.fld69_7 : FieldOff Try.prog 69 7 7 := field_of (m := 1) Try.underlying69 (by kernel_rfl) rfl
instance Try.fld69_8 : FieldOff Try.prog 69 8 8 := field_of (m := 1) Try.underlying69 (by kernel_rfl) rfl
instance Try.fld69_9 : FieldOff Try.prog 69 9 9 := field_of (m := 1) Try.underlying69 (by kernel_rfl) rfl
instance Try.fld69_10 : FieldOff Try.prog 69 10 10 := field_of (m := 1) Try.underlying69 (by kernel_rfl) rfl
instance Try.zero69 : Zero Try.prog 69 [.int .u64 0, .int .u64 0, .int .u32 0, .int .u8 0, .int .u8 0, .int .u8 0, .int .u8 0, .nilFunc, .pointer none, .int .i32 0, .int .i32 0] := ⟨.agg #[.int .u64 0, .int .u64 0, .int .u32 0, .int .u8 0, .int .u8 0, .int .u8 0, .int .u8 0, .nilFunc, .pointer none, .int .i32 0, .int .i32 0], fun _ => by kernel_rfl, rfl⟩
instance Try.ent3 : Enters Try.prog 3 := enters_of Try.func3 rfl (by kernel_rfl)
instance Try.ent4 : Enters Try.prog 4 := enters_of Try.func4 rfl (by kernel_rfl)
instance Try.ent5 : Enters Try.prog 5 := enters_of Try.func5 rfl (by kernel_rfl)
instance Try.ent6 : Enters Try.prog 6 := enters_of Try.func6 rfl (by kernel_rfl)
instance Try.ent7 : Enters Try.prog 7 := enters_of Try.func7 rfl (by kernel_rfl)
instance Try.ent8 : Enters Try.prog 8 := enters_of Try.func8 rfl (by kernel_rfl)
instance Try.ent9 : Enters Try.prog 9 := enters_of Try.func9 rfl (by kernel_rfl)
instance Try.ent10 : Enters Try.prog 10 := enters_of Try.func10 rfl (by kernel_rfl)
instance Try.ent11 : Enters Try.prog 11 := enters_of Try.func11 rfl (by kernel_rfl)
instance Try.ent12 : Enters Try.prog 12 := enters_of Try.func12 rfl (by kernel_rfl)
instance Try.ent13 : Enters Try.prog 13 := enters_of Try.func13 rfl (by kernel_rfl)
instance Try.ent14 : Enters Try.prog 14 := enters_of Try.func14 rfl (by kernel_rfl)
instance Try.ent15 : Enters Try.prog 15 := enters_of Try.func15 rfl (by kernel_rfl)
instance Try.ent16 : Enters Try.prog 16 := enters_of Try.func16 rfl (by kernel_rfl)
instance Try.ent17 : Enters Try.prog 17 := enters_of Try.func17 rfl (by kernel_rfl)
instance Try.ent18 : Enters Try.prog 18 := enters_of Try.func18 rfl (by kernel_rfl)
instance Try.ent19 : Enters Try.prog 19 := enters_of Try.func19 rfl (by kernel_rfl)
instance Try.ent20 : Enters Try.prog 20 := enters_of Try.func20 rfl (by kernel_rfl)
instance Try.ent21 : Enters Try.prog 21 := enters_of Try.func21 rfl (by kernel_rfl)
instance Try.ent22 : Enters Try.prog 22 := enters_of Try.func22 rfl (by kernel_rfl)
instance Try.ent23 : Enters Try.prog 23 := enters_of Try.func23 rfl (by kernel_rfl)
instance Try.ent24 : Enters Try.prog 24 := enters_of Try.func24 rfl (by kernel_rfl)
instance Try.ent25 : Enters Try.prog 25 := enters_of Try.func25 rfl (by kernel_rfl)
instance Try.ent26 : Enters Try.prog 26 := enters_of Try.func26 rfl (by kernel_rfl)
instance Try.ent27 : Enters Try.prog 27 := enters_of Try.func27 rfl (by kernel_rfl)
instance Try.ent28 : Enters Try.prog 28 := enters_of Try.func28 rfl (by kernel_rfl)
instance Try.ent29 : Enters Try.prog 29 := enters_of Try.func29 rfl (by kernel_rfl)
instance Try.ent30 : Enters Try.prog 30 := enters_of Try.func30 rfl (by kernel_rfl)
end Go.Proofs
