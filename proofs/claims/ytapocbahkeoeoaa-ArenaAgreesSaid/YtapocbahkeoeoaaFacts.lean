/-
  Facts on the types and functions of the translation that the walks use: sizes, places of fields, zero values; that a call enters the function. Written by a program (wip/gen.py).
-/
import Derived.Test.YtapocbahkeoeoaaVc
import Derived.Test.YtapocbahkeoeoaaChecked
namespace Go.Proofs
open Go.Vc
theorem Try.follows : Try.prog.follows .mixedOrders = true := by kernel_rfl
instance Try.uty2 : UTy Try.prog 2 (.int .i64) := ⟨Try.underlying2⟩
instance Try.sca2 : Scalar Try.prog 2 := scalar_of Try.underlying2 rfl (by kernel_rfl)
instance Try.zero2 : Zero Try.prog 2 [.int .i64 0] := ⟨.int .i64 0, fun _ => by kernel_rfl, rfl⟩
instance Try.uty3 : UTy Try.prog 3 (.int .i64) := ⟨Try.underlying3⟩
instance Try.sca3 : Scalar Try.prog 3 := scalar_of Try.underlying3 rfl (by kernel_rfl)
instance Try.zero3 : Zero Try.prog 3 [.int .i64 0] := ⟨.int .i64 0, fun _ => by kernel_rfl, rfl⟩
instance Try.uty4 : UTy Try.prog 4 .bool := ⟨Try.underlying4⟩
instance Try.sca4 : Scalar Try.prog 4 := scalar_of Try.underlying4 rfl (by kernel_rfl)
instance Try.zero4 : Zero Try.prog 4 [.bool false] := ⟨.bool false, fun _ => by kernel_rfl, rfl⟩
instance Try.uty5 : UTy Try.prog 5 (.int .u8) := ⟨Try.underlying5⟩
instance Try.sca5 : Scalar Try.prog 5 := scalar_of Try.underlying5 rfl (by kernel_rfl)
instance Try.zero5 : Zero Try.prog 5 [.int .u8 0] := ⟨.int .u8 0, fun _ => by kernel_rfl, rfl⟩
instance Try.uty9 : UTy Try.prog 9 .string := ⟨Try.underlying9⟩
instance Try.sca9 : Scalar Try.prog 9 := scalar_of Try.underlying9 rfl (by kernel_rfl)
instance Try.zero9 : Zero Try.prog 9 [.string .empty] := ⟨.string .empty, fun _ => by kernel_rfl, rfl⟩
instance Try.uty12 : UTy Try.prog 12 (.int .u64) := ⟨Try.underlying12⟩
instance Try.sca12 : Scalar Try.prog 12 := scalar_of Try.underlying12 rfl (by kernel_rfl)
instance Try.zero12 : Zero Try.prog 12 [.int .u64 0] := ⟨.int .u64 0, fun _ => by kernel_rfl, rfl⟩
instance Try.uty15 : UTy Try.prog 15 (.pointer 121) := ⟨Try.underlying15⟩
instance Try.sca15 : Scalar Try.prog 15 := scalar_of Try.underlying15 rfl (by kernel_rfl)
instance Try.zero15 : Zero Try.prog 15 [.pointer none] := ⟨.pointer none, fun _ => by kernel_rfl, rfl⟩
instance Try.uty16 : UTy Try.prog 16 (.pointer 124) := ⟨Try.underlying16⟩
instance Try.sca16 : Scalar Try.prog 16 := scalar_of Try.underlying16 rfl (by kernel_rfl)
instance Try.zero16 : Zero Try.prog 16 [.pointer none] := ⟨.pointer none, fun _ => by kernel_rfl, rfl⟩
instance Try.uty17 : UTy Try.prog 17 (.pointer 132) := ⟨Try.underlying17⟩
instance Try.sca17 : Scalar Try.prog 17 := scalar_of Try.underlying17 rfl (by kernel_rfl)
instance Try.zero17 : Zero Try.prog 17 [.pointer none] := ⟨.pointer none, fun _ => by kernel_rfl, rfl⟩
instance Try.uty21 : UTy Try.prog 21 (.int .i32) := ⟨Try.underlying21⟩
instance Try.sca21 : Scalar Try.prog 21 := scalar_of Try.underlying21 rfl (by kernel_rfl)
instance Try.zero21 : Zero Try.prog 21 [.int .i32 0] := ⟨.int .i32 0, fun _ => by kernel_rfl, rfl⟩
instance Try.uty22 : UTy Try.prog 22 (.pointer 97) := ⟨Try.underlying22⟩
instance Try.sca22 : Scalar Try.prog 22 := scalar_of Try.underlying22 rfl (by kernel_rfl)
instance Try.zero22 : Zero Try.prog 22 [.pointer none] := ⟨.pointer none, fun _ => by kernel_rfl, rfl⟩
instance Try.uty23 : UTy Try.prog 23 (.int .i64) := ⟨Try.underlying23⟩
instance Try.sca23 : Scalar Try.prog 23 := scalar_of Try.underlying23 rfl (by kernel_rfl)
instance Try.zero23 : Zero Try.prog 23 [.int .i64 0] := ⟨.int .i64 0, fun _ => by kernel_rfl, rfl⟩
instance Try.uty27 : UTy Try.prog 27 (.int .u32) := ⟨Try.underlying27⟩
instance Try.sca27 : Scalar Try.prog 27 := scalar_of Try.underlying27 rfl (by kernel_rfl)
instance Try.zero27 : Zero Try.prog 27 [.int .u32 0] := ⟨.int .u32 0, fun _ => by kernel_rfl, rfl⟩
instance Try.uty33 : UTy Try.prog 33 (.slice 52) := ⟨Try.underlying33⟩
instance Try.sca33 : Scalar Try.prog 33 := scalar_of Try.underlying33 rfl (by kernel_rfl)
theorem Try.erow33 : (Try.prog.info? 52).map (fun i => (i.zero, i.size, i.bytes)) = some (some (.agg #[.bool false, .int .i64 0, .int .u32 0, .int .i64 0, .int .i64 0, .int .u32 0, .int .u32 0, .int .i64 0, .int .i64 0, .int .i64 0, .int .i64 0]), 11, 80) := by kernel_rfl
instance Try.elem33 : Elem Try.prog 33 52 11 80 := elem_of Try.underlying33 Try.erow33 rfl
instance Try.zero33 : Zero Try.prog 33 [.slice none 0 0] := ⟨.slice none 0 0, fun _ => by kernel_rfl, rfl⟩
instance Try.uty34 : UTy Try.prog 34 (.slice 27) := ⟨Try.underlying34⟩
instance Try.sca34 : Scalar Try.prog 34 := scalar_of Try.underlying34 rfl (by kernel_rfl)
theorem Try.erow34 : (Try.prog.info? 27).map (fun i => (i.zero, i.size, i.bytes)) = some (some (.int .u32 0), 1, 4) := by kernel_rfl
instance Try.elem34 : Elem Try.prog 34 27 1 4 := elem_of Try.underlying34 Try.erow34 rfl
instance Try.zero34 : Zero Try.prog 34 [.slice none 0 0] := ⟨.slice none 0 0, fun _ => by kernel_rfl, rfl⟩
instance Try.agg35 : Agg Try.prog 35 2 := agg_of Try.underlying35 rfl (by kernel_rfl)
instance Try.fld35_0 : FieldOff Try.prog 35 0 0 := field_of (m := 1) Try.underlying35 (by kernel_rfl) rfl
instance Try.fld35_1 : FieldOff Try.prog 35 1 1 := field_of (m := 1) Try.underlying35 (by kernel_rfl) rfl
instance Try.zero35 : Zero Try.prog 35 [.slice none 0 0, .slice none 0 0] := ⟨.agg #[.slice none 0 0, .slice none 0 0], fun _ => by kernel_rfl, rfl⟩
instance Try.agg36 : Agg Try.prog 36 2 := agg_of Try.underlying36 rfl (by kernel_rfl)
instance Try.fld36_0 : FieldOff Try.prog 36 0 0 := field_of (m := 1) Try.underlying36 (by kernel_rfl) rfl
instance Try.fld36_1 : FieldOff Try.prog 36 1 1 := field_of (m := 1) Try.underlying36 (by kernel_rfl) rfl
instance Try.zero36 : Zero Try.prog 36 [.slice none 0 0, .slice none 0 0] := ⟨.agg #[.slice none 0 0, .slice none 0 0], fun _ => by kernel_rfl, rfl⟩
instance Try.uty39 : UTy Try.prog 39 (.slice 3) := ⟨Try.underlying39⟩
instance Try.sca39 : Scalar Try.prog 39 := scalar_of Try.underlying39 rfl (by kernel_rfl)
theorem Try.erow39 : (Try.prog.info? 3).map (fun i => (i.zero, i.size, i.bytes)) = some (some (.int .i64 0), 1, 8) := by kernel_rfl
instance Try.elem39 : Elem Try.prog 39 3 1 8 := elem_of Try.underlying39 Try.erow39 rfl
instance Try.zero39 : Zero Try.prog 39 [.slice none 0 0] := ⟨.slice none 0 0, fun _ => by kernel_rfl, rfl⟩
instance Try.agg44 : Agg Try.prog 44 4 := agg_of Try.underlying44 rfl (by kernel_rfl)
instance Try.fld44_0 : FieldOff Try.prog 44 0 0 := field_of (m := 1) Try.underlying44 (by kernel_rfl) rfl
instance Try.fld44_1 : FieldOff Try.prog 44 1 1 := field_of (m := 1) Try.underlying44 (by kernel_rfl) rfl
instance Try.fld44_2 : FieldOff Try.prog 44 2 2 := field_of (m := 1) Try.underlying44 (by kernel_rfl) rfl
instance Try.fld44_3 : FieldOff Try.prog 44 3 3 := field_of (m := 1) Try.underlying44 (by kernel_rfl) rfl
instance Try.zero44 : Zero Try.prog 44 [.int .i64 0, .int .u32 0, .int .i64 0, .int .i64 0] := ⟨.agg #[.int .i64 0, .int .u32 0, .int .i64 0, .int .i64 0], fun _ => by kernel_rfl, rfl⟩
instance Try.agg45 : Agg Try.prog 45 4 := agg_of Try.underlying45 rfl (by kernel_rfl)
instance Try.fld45_0 : FieldOff Try.prog 45 0 0 := field_of (m := 1) Try.underlying45 (by kernel_rfl) rfl
instance Try.fld45_1 : FieldOff Try.prog 45 1 1 := field_of (m := 1) Try.underlying45 (by kernel_rfl) rfl
instance Try.fld45_2 : FieldOff Try.prog 45 2 2 := field_of (m := 1) Try.underlying45 (by kernel_rfl) rfl
instance Try.fld45_3 : FieldOff Try.prog 45 3 3 := field_of (m := 1) Try.underlying45 (by kernel_rfl) rfl
instance Try.zero45 : Zero Try.prog 45 [.int .i64 0, .int .u32 0, .int .i64 0, .int .i64 0] := ⟨.agg #[.int .i64 0, .int .u32 0, .int .i64 0, .int .i64 0], fun _ => by kernel_rfl, rfl⟩
instance Try.uty46 : UTy Try.prog 46 (.slice 45) := ⟨Try.underlying46⟩
instance Try.sca46 : Scalar Try.prog 46 := scalar_of Try.underlying46 rfl (by kernel_rfl)
theorem Try.erow46 : (Try.prog.info? 45).map (fun i => (i.zero, i.size, i.bytes)) = some (some (.agg #[.int .i64 0, .int .u32 0, .int .i64 0, .int .i64 0]), 4, 32) := by kernel_rfl
instance Try.elem46 : Elem Try.prog 46 45 4 32 := elem_of Try.underlying46 Try.erow46 rfl
instance Try.zero46 : Zero Try.prog 46 [.slice none 0 0] := ⟨.slice none 0 0, fun _ => by kernel_rfl, rfl⟩
instance Try.uty48 : UTy Try.prog 48 (.slice 4) := ⟨Try.underlying48⟩
instance Try.sca48 : Scalar Try.prog 48 := scalar_of Try.underlying48 rfl (by kernel_rfl)
theorem Try.erow48 : (Try.prog.info? 4).map (fun i => (i.zero, i.size, i.bytes)) = some (some (.bool false), 1, 1) := by kernel_rfl
instance Try.elem48 : Elem Try.prog 48 4 1 1 := elem_of Try.underlying48 Try.erow48 rfl
instance Try.zero48 : Zero Try.prog 48 [.slice none 0 0] := ⟨.slice none 0 0, fun _ => by kernel_rfl, rfl⟩
instance Try.agg49 : Agg Try.prog 49 8 := agg_of Try.underlying49 rfl (by kernel_rfl)
instance Try.fld49_0 : FieldOff Try.prog 49 0 0 := field_of (m := 1) Try.underlying49 (by kernel_rfl) rfl
instance Try.fld49_1 : FieldOff Try.prog 49 1 1 := field_of (m := 1) Try.underlying49 (by kernel_rfl) rfl
instance Try.fld49_2 : FieldOff Try.prog 49 2 2 := field_of (m := 1) Try.underlying49 (by kernel_rfl) rfl
instance Try.fld49_3 : FieldOff Try.prog 49 3 3 := field_of (m := 1) Try.underlying49 (by kernel_rfl) rfl
instance Try.fld49_4 : FieldOff Try.prog 49 4 4 := field_of (m := 1) Try.underlying49 (by kernel_rfl) rfl
instance Try.fld49_5 : FieldOff Try.prog 49 5 5 := field_of (m := 1) Try.underlying49 (by kernel_rfl) rfl
instance Try.fld49_6 : FieldOff Try.prog 49 6 6 := field_of (m := 1) Try.underlying49 (by kernel_rfl) rfl
instance Try.fld49_7 : FieldOff Try.prog 49 7 7 := field_of (m := 1) Try.underlying49 (by kernel_rfl) rfl
instance Try.zero49 : Zero Try.prog 49 [.int .i64 0, .int .i64 0, .int .u32 0, .int .u32 0, .int .i64 0, .int .i64 0, .int .i64 0, .int .i64 0] := ⟨.agg #[.int .i64 0, .int .i64 0, .int .u32 0, .int .u32 0, .int .i64 0, .int .i64 0, .int .i64 0, .int .i64 0], fun _ => by kernel_rfl, rfl⟩
instance Try.agg50 : Agg Try.prog 50 8 := agg_of Try.underlying50 rfl (by kernel_rfl)
instance Try.fld50_0 : FieldOff Try.prog 50 0 0 := field_of (m := 1) Try.underlying50 (by kernel_rfl) rfl
instance Try.fld50_1 : FieldOff Try.prog 50 1 1 := field_of (m := 1) Try.underlying50 (by kernel_rfl) rfl
instance Try.fld50_2 : FieldOff Try.prog 50 2 2 := field_of (m := 1) Try.underlying50 (by kernel_rfl) rfl
instance Try.fld50_3 : FieldOff Try.prog 50 3 3 := field_of (m := 1) Try.underlying50 (by kernel_rfl) rfl
instance Try.fld50_4 : FieldOff Try.prog 50 4 4 := field_of (m := 1) Try.underlying50 (by kernel_rfl) rfl
instance Try.fld50_5 : FieldOff Try.prog 50 5 5 := field_of (m := 1) Try.underlying50 (by kernel_rfl) rfl
instance Try.fld50_6 : FieldOff Try.prog 50 6 6 := field_of (m := 1) Try.underlying50 (by kernel_rfl) rfl
instance Try.fld50_7 : FieldOff Try.prog 50 7 7 := field_of (m := 1) Try.underlying50 (by kernel_rfl) rfl
instance Try.zero50 : Zero Try.prog 50 [.int .i64 0, .int .i64 0, .int .u32 0, .int .u32 0, .int .i64 0, .int .i64 0, .int .i64 0, .int .i64 0] := ⟨.agg #[.int .i64 0, .int .i64 0, .int .u32 0, .int .u32 0, .int .i64 0, .int .i64 0, .int .i64 0, .int .i64 0], fun _ => by kernel_rfl, rfl⟩
instance Try.agg51 : Agg Try.prog 51 11 := agg_of Try.underlying51 rfl (by kernel_rfl)
instance Try.fld51_0 : FieldOff Try.prog 51 0 0 := field_of (m := 1) Try.underlying51 (by kernel_rfl) rfl
instance Try.fld51_1 : FieldOff Try.prog 51 1 1 := field_of (m := 1) Try.underlying51 (by kernel_rfl) rfl
instance Try.fld51_2 : FieldOff Try.prog 51 2 2 := field_of (m := 1) Try.underlying51 (by kernel_rfl) rfl
instance Try.fld51_3 : FieldOff Try.prog 51 3 3 := field_of (m := 8) Try.underlying51 (by kernel_rfl) rfl
instance Try.zero51 : Zero Try.prog 51 [.bool false, .int .i64 0, .int .u32 0, .int .i64 0, .int .i64 0, .int .u32 0, .int .u32 0, .int .i64 0, .int .i64 0, .int .i64 0, .int .i64 0] := ⟨.agg #[.bool false, .int .i64 0, .int .u32 0, .int .i64 0, .int .i64 0, .int .u32 0, .int .u32 0, .int .i64 0, .int .i64 0, .int .i64 0, .int .i64 0], fun _ => by kernel_rfl, rfl⟩
instance Try.agg52 : Agg Try.prog 52 11 := agg_of Try.underlying52 rfl (by kernel_rfl)
instance Try.fld52_0 : FieldOff Try.prog 52 0 0 := field_of (m := 1) Try.underlying52 (by kernel_rfl) rfl
instance Try.fld52_1 : FieldOff Try.prog 52 1 1 := field_of (m := 1) Try.underlying52 (by kernel_rfl) rfl
instance Try.fld52_2 : FieldOff Try.prog 52 2 2 := field_of (m := 1) Try.underlying52 (by kernel_rfl) rfl
instance Try.fld52_3 : FieldOff Try.prog 52 3 3 := field_of (m := 8) Try.underlying52 (by kernel_rfl) rfl
instance Try.zero52 : Zero Try.prog 52 [.bool false, .int .i64 0, .int .u32 0, .int .i64 0, .int .i64 0, .int .u32 0, .int .u32 0, .int .i64 0, .int .i64 0, .int .i64 0, .int .i64 0] := ⟨.agg #[.bool false, .int .i64 0, .int .u32 0, .int .i64 0, .int .i64 0, .int .u32 0, .int .u32 0, .int .i64 0, .int .i64 0, .int .i64 0, .int .i64 0], fun _ => by kernel_rfl, rfl⟩
instance Try.uty55 : UTy Try.prog 55 (.int .u64) := ⟨Try.underlying55⟩
instance Try.sca55 : Scalar Try.prog 55 := scalar_of Try.underlying55 rfl (by kernel_rfl)
instance Try.zero55 : Zero Try.prog 55 [.int .u64 0] := ⟨.int .u64 0, fun _ => by kernel_rfl, rfl⟩
instance Try.uty59 : UTy Try.prog 59 (.pointer 85) := ⟨Try.underlying59⟩
instance Try.sca59 : Scalar Try.prog 59 := scalar_of Try.underlying59 rfl (by kernel_rfl)
instance Try.zero59 : Zero Try.prog 59 [.pointer none] := ⟨.pointer none, fun _ => by kernel_rfl, rfl⟩
instance Try.uty62 : UTy Try.prog 62 (.slice 77) := ⟨Try.underlying62⟩
instance Try.sca62 : Scalar Try.prog 62 := scalar_of Try.underlying62 rfl (by kernel_rfl)
theorem Try.erow62 : (Try.prog.info? 77).map (fun i => (i.zero, i.size, i.bytes)) = some (some (.agg #[.int .i64 0, .int .i64 0, .int .i64 0, .int .u32 0, .int .u32 0]), 5, 32) := by kernel_rfl
instance Try.elem62 : Elem Try.prog 62 77 5 32 := elem_of Try.underlying62 Try.erow62 rfl
instance Try.zero62 : Zero Try.prog 62 [.slice none 0 0] := ⟨.slice none 0 0, fun _ => by kernel_rfl, rfl⟩
instance Try.uty63 : UTy Try.prog 63 (.pointer 67) := ⟨Try.underlying63⟩
instance Try.sca63 : Scalar Try.prog 63 := scalar_of Try.underlying63 rfl (by kernel_rfl)
instance Try.zero63 : Zero Try.prog 63 [.pointer none] := ⟨.pointer none, fun _ => by kernel_rfl, rfl⟩
instance Try.agg66 : Agg Try.prog 66 2 := agg_of Try.underlying66 rfl (by kernel_rfl)
instance Try.fld66_0 : FieldOff Try.prog 66 0 0 := field_of (m := 1) Try.underlying66 (by kernel_rfl) rfl
instance Try.fld66_1 : FieldOff Try.prog 66 1 1 := field_of (m := 1) Try.underlying66 (by kernel_rfl) rfl
instance Try.zero66 : Zero Try.prog 66 [.pointer none, .slice none 0 0] := ⟨.agg #[.pointer none, .slice none 0 0], fun _ => by kernel_rfl, rfl⟩
instance Try.agg67 : Agg Try.prog 67 2 := agg_of Try.underlying67 rfl (by kernel_rfl)
instance Try.fld67_0 : FieldOff Try.prog 67 0 0 := field_of (m := 1) Try.underlying67 (by kernel_rfl) rfl
instance Try.fld67_1 : FieldOff Try.prog 67 1 1 := field_of (m := 1) Try.underlying67 (by kernel_rfl) rfl
instance Try.zero67 : Zero Try.prog 67 [.pointer none, .slice none 0 0] := ⟨.agg #[.pointer none, .slice none 0 0], fun _ => by kernel_rfl, rfl⟩
instance Try.agg76 : Agg Try.prog 76 5 := agg_of Try.underlying76 rfl (by kernel_rfl)
instance Try.fld76_0 : FieldOff Try.prog 76 0 0 := field_of (m := 1) Try.underlying76 (by kernel_rfl) rfl
instance Try.fld76_1 : FieldOff Try.prog 76 1 1 := field_of (m := 1) Try.underlying76 (by kernel_rfl) rfl
instance Try.fld76_2 : FieldOff Try.prog 76 2 2 := field_of (m := 1) Try.underlying76 (by kernel_rfl) rfl
instance Try.fld76_3 : FieldOff Try.prog 76 3 3 := field_of (m := 1) Try.underlying76 (by kernel_rfl) rfl
instance Try.fld76_4 : FieldOff Try.prog 76 4 4 := field_of (m := 1) Try.underlying76 (by kernel_rfl) rfl
instance Try.zero76 : Zero Try.prog 76 [.int .i64 0, .int .i64 0, .int .i64 0, .int .u32 0, .int .u32 0] := ⟨.agg #[.int .i64 0, .int .i64 0, .int .i64 0, .int .u32 0, .int .u32 0], fun _ => by kernel_rfl, rfl⟩
instance Try.agg77 : Agg Try.prog 77 5 := agg_of Try.underlying77 rfl (by kernel_rfl)
instance Try.fld77_0 : FieldOff Try.prog 77 0 0 := field_of (m := 1) Try.underlying77 (by kernel_rfl) rfl
instance Try.fld77_1 : FieldOff Try.prog 77 1 1 := field_of (m := 1) Try.underlying77 (by kernel_rfl) rfl
instance Try.fld77_2 : FieldOff Try.prog 77 2 2 := field_of (m := 1) Try.underlying77 (by kernel_rfl) rfl
instance Try.fld77_3 : FieldOff Try.prog 77 3 3 := field_of (m := 1) Try.underlying77 (by kernel_rfl) rfl
instance Try.fld77_4 : FieldOff Try.prog 77 4 4 := field_of (m := 1) Try.underlying77 (by kernel_rfl) rfl
instance Try.zero77 : Zero Try.prog 77 [.int .i64 0, .int .i64 0, .int .i64 0, .int .u32 0, .int .u32 0] := ⟨.agg #[.int .i64 0, .int .i64 0, .int .i64 0, .int .u32 0, .int .u32 0], fun _ => by kernel_rfl, rfl⟩
instance Try.agg81 : Agg Try.prog 81 5 := agg_of Try.underlying81 rfl (by kernel_rfl)
instance Try.fld81_0 : FieldOff Try.prog 81 0 0 := field_of (m := 1) Try.underlying81 (by kernel_rfl) rfl
instance Try.fld81_1 : FieldOff Try.prog 81 1 1 := field_of (m := 1) Try.underlying81 (by kernel_rfl) rfl
instance Try.fld81_2 : FieldOff Try.prog 81 2 2 := field_of (m := 1) Try.underlying81 (by kernel_rfl) rfl
instance Try.fld81_3 : FieldOff Try.prog 81 3 3 := field_of (m := 1) Try.underlying81 (by kernel_rfl) rfl
instance Try.fld81_4 : FieldOff Try.prog 81 4 4 := field_of (m := 1) Try.underlying81 (by kernel_rfl) rfl
instance Try.zero81 : Zero Try.prog 81 [.int .i64 0, .slice none 0 0, .int .i64 0, .slice none 0 0, .slice none 0 0] := ⟨.agg #[.int .i64 0, .slice none 0 0, .int .i64 0, .slice none 0 0, .slice none 0 0], fun _ => by kernel_rfl, rfl⟩
instance Try.agg82 : Agg Try.prog 82 5 := agg_of Try.underlying82 rfl (by kernel_rfl)
instance Try.fld82_0 : FieldOff Try.prog 82 0 0 := field_of (m := 1) Try.underlying82 (by kernel_rfl) rfl
instance Try.fld82_1 : FieldOff Try.prog 82 1 1 := field_of (m := 1) Try.underlying82 (by kernel_rfl) rfl
instance Try.fld82_2 : FieldOff Try.prog 82 2 2 := field_of (m := 1) Try.underlying82 (by kernel_rfl) rfl
instance Try.fld82_3 : FieldOff Try.prog 82 3 3 := field_of (m := 1) Try.underlying82 (by kernel_rfl) rfl
instance Try.fld82_4 : FieldOff Try.prog 82 4 4 := field_of (m := 1) Try.underlying82 (by kernel_rfl) rfl
instance Try.zero82 : Zero Try.prog 82 [.int .i64 0, .slice none 0 0, .int .i64 0, .slice none 0 0, .slice none 0 0] := ⟨.agg #[.int .i64 0, .slice none 0 0, .int .i64 0, .slice none 0 0, .slice none 0 0], fun _ => by kernel_rfl, rfl⟩
instance Try.uty83 : UTy Try.prog 83 (.slice 50) := ⟨Try.underlying83⟩
instance Try.sca83 : Scalar Try.prog 83 := scalar_of Try.underlying83 rfl (by kernel_rfl)
theorem Try.erow83 : (Try.prog.info? 50).map (fun i => (i.zero, i.size, i.bytes)) = some (some (.agg #[.int .i64 0, .int .i64 0, .int .u32 0, .int .u32 0, .int .i64 0, .int .i64 0, .int .i64 0, .int .i64 0]), 8, 56) := by kernel_rfl
instance Try.elem83 : Elem Try.prog 83 50 8 56 := elem_of Try.underlying83 Try.erow83 rfl
instance Try.zero83 : Zero Try.prog 83 [.slice none 0 0] := ⟨.slice none 0 0, fun _ => by kernel_rfl, rfl⟩
instance Try.agg84 : Agg Try.prog 84 8 := agg_of Try.underlying84 rfl (by kernel_rfl)
instance Try.fld84_0 : FieldOff Try.prog 84 0 0 := field_of (m := 5) Try.underlying84 (by kernel_rfl) rfl
instance Try.fld84_1 : FieldOff Try.prog 84 1 5 := field_of (m := 1) Try.underlying84 (by kernel_rfl) rfl
instance Try.fld84_2 : FieldOff Try.prog 84 2 6 := field_of (m := 1) Try.underlying84 (by kernel_rfl) rfl
instance Try.fld84_3 : FieldOff Try.prog 84 3 7 := field_of (m := 1) Try.underlying84 (by kernel_rfl) rfl
instance Try.zero84 : Zero Try.prog 84 [.int .i64 0, .slice none 0 0, .int .i64 0, .slice none 0 0, .slice none 0 0, .slice none 0 0, .slice none 0 0, .int .u64 0] := ⟨.agg #[.int .i64 0, .slice none 0 0, .int .i64 0, .slice none 0 0, .slice none 0 0, .slice none 0 0, .slice none 0 0, .int .u64 0], fun _ => by kernel_rfl, rfl⟩
instance Try.agg85 : Agg Try.prog 85 8 := agg_of Try.underlying85 rfl (by kernel_rfl)
instance Try.fld85_0 : FieldOff Try.prog 85 0 0 := field_of (m := 5) Try.underlying85 (by kernel_rfl) rfl
instance Try.fld85_1 : FieldOff Try.prog 85 1 5 := field_of (m := 1) Try.underlying85 (by kernel_rfl) rfl
instance Try.fld85_2 : FieldOff Try.prog 85 2 6 := field_of (m := 1) Try.underlying85 (by kernel_rfl) rfl
instance Try.fld85_3 : FieldOff Try.prog 85 3 7 := field_of (m := 1) Try.underlying85 (by kernel_rfl) rfl
instance Try.zero85 : Zero Try.prog 85 [.int .i64 0, .slice none 0 0, .int .i64 0, .slice none 0 0, .slice none 0 0, .slice none 0 0, .slice none 0 0, .int .u64 0] := ⟨.agg #[.int .i64 0, .slice none 0 0, .int .i64 0, .slice none 0 0, .slice none 0 0, .slice none 0 0, .slice none 0 0, .int .u64 0], fun _ => by kernel_rfl, rfl⟩
instance Try.uty87 : UTy Try.prog 87 (.slice 113) := ⟨Try.underlying87⟩
instance Try.sca87 : Scalar Try.prog 87 := scalar_of Try.underlying87 rfl (by kernel_rfl)
theorem Try.erow87 : (Try.prog.info? 113).map (fun i => (i.zero, i.size, i.bytes)) = some (some (.agg #[.bool false, .int .i64 0, .int .i64 0, .int .i64 0, .int .i64 0]), 5, 40) := by kernel_rfl
instance Try.elem87 : Elem Try.prog 87 113 5 40 := elem_of Try.underlying87 Try.erow87 rfl
instance Try.zero87 : Zero Try.prog 87 [.slice none 0 0] := ⟨.slice none 0 0, fun _ => by kernel_rfl, rfl⟩
instance Try.uty93 : UTy Try.prog 93 (.pointer 115) := ⟨Try.underlying93⟩
instance Try.sca93 : Scalar Try.prog 93 := scalar_of Try.underlying93 rfl (by kernel_rfl)
instance Try.zero93 : Zero Try.prog 93 [.pointer none] := ⟨.pointer none, fun _ => by kernel_rfl, rfl⟩
instance Try.agg96 : Agg Try.prog 96 4 := agg_of Try.underlying96 rfl (by kernel_rfl)
instance Try.fld96_0 : FieldOff Try.prog 96 0 0 := field_of (m := 1) Try.underlying96 (by kernel_rfl) rfl
instance Try.fld96_1 : FieldOff Try.prog 96 1 1 := field_of (m := 1) Try.underlying96 (by kernel_rfl) rfl
instance Try.fld96_2 : FieldOff Try.prog 96 2 2 := field_of (m := 1) Try.underlying96 (by kernel_rfl) rfl
instance Try.fld96_3 : FieldOff Try.prog 96 3 3 := field_of (m := 1) Try.underlying96 (by kernel_rfl) rfl
instance Try.zero96 : Zero Try.prog 96 [.pointer none, .slice none 0 0, .slice none 0 0, .int .u64 0] := ⟨.agg #[.pointer none, .slice none 0 0, .slice none 0 0, .int .u64 0], fun _ => by kernel_rfl, rfl⟩
instance Try.agg97 : Agg Try.prog 97 4 := agg_of Try.underlying97 rfl (by kernel_rfl)
instance Try.fld97_0 : FieldOff Try.prog 97 0 0 := field_of (m := 1) Try.underlying97 (by kernel_rfl) rfl
instance Try.fld97_1 : FieldOff Try.prog 97 1 1 := field_of (m := 1) Try.underlying97 (by kernel_rfl) rfl
instance Try.fld97_2 : FieldOff Try.prog 97 2 2 := field_of (m := 1) Try.underlying97 (by kernel_rfl) rfl
instance Try.fld97_3 : FieldOff Try.prog 97 3 3 := field_of (m := 1) Try.underlying97 (by kernel_rfl) rfl
instance Try.zero97 : Zero Try.prog 97 [.pointer none, .slice none 0 0, .slice none 0 0, .int .u64 0] := ⟨.agg #[.pointer none, .slice none 0 0, .slice none 0 0, .int .u64 0], fun _ => by kernel_rfl, rfl⟩
instance Try.uty98 : UTy Try.prog 98 (.array 2 27) := ⟨Try.underlying98⟩
instance Try.agg98 : Agg Try.prog 98 2 := agg_of Try.underlying98 rfl (by kernel_rfl)
instance Try.zero98 : Zero Try.prog 98 [.int .u32 0, .int .u32 0] := ⟨.agg #[.int .u32 0, .int .u32 0], fun _ => by kernel_rfl, rfl⟩
instance Try.uty100 : UTy Try.prog 100 (.pointer 50) := ⟨Try.underlying100⟩
instance Try.sca100 : Scalar Try.prog 100 := scalar_of Try.underlying100 rfl (by kernel_rfl)
instance Try.zero100 : Zero Try.prog 100 [.pointer none] := ⟨.pointer none, fun _ => by kernel_rfl, rfl⟩
instance Try.agg112 : Agg Try.prog 112 5 := agg_of Try.underlying112 rfl (by kernel_rfl)
instance Try.fld112_0 : FieldOff Try.prog 112 0 0 := field_of (m := 1) Try.underlying112 (by kernel_rfl) rfl
instance Try.fld112_1 : FieldOff Try.prog 112 1 1 := field_of (m := 1) Try.underlying112 (by kernel_rfl) rfl
instance Try.fld112_2 : FieldOff Try.prog 112 2 2 := field_of (m := 1) Try.underlying112 (by kernel_rfl) rfl
instance Try.fld112_3 : FieldOff Try.prog 112 3 3 := field_of (m := 1) Try.underlying112 (by kernel_rfl) rfl
instance Try.fld112_4 : FieldOff Try.prog 112 4 4 := field_of (m := 1) Try.underlying112 (by kernel_rfl) rfl
instance Try.zero112 : Zero Try.prog 112 [.bool false, .int .i64 0, .int .i64 0, .int .i64 0, .int .i64 0] := ⟨.agg #[.bool false, .int .i64 0, .int .i64 0, .int .i64 0, .int .i64 0], fun _ => by kernel_rfl, rfl⟩
instance Try.agg113 : Agg Try.prog 113 5 := agg_of Try.underlying113 rfl (by kernel_rfl)
instance Try.fld113_0 : FieldOff Try.prog 113 0 0 := field_of (m := 1) Try.underlying113 (by kernel_rfl) rfl
instance Try.fld113_1 : FieldOff Try.prog 113 1 1 := field_of (m := 1) Try.underlying113 (by kernel_rfl) rfl
instance Try.fld113_2 : FieldOff Try.prog 113 2 2 := field_of (m := 1) Try.underlying113 (by kernel_rfl) rfl
instance Try.fld113_3 : FieldOff Try.prog 113 3 3 := field_of (m := 1) Try.underlying113 (by kernel_rfl) rfl
instance Try.fld113_4 : FieldOff Try.prog 113 4 4 := field_of (m := 1) Try.underlying113 (by kernel_rfl) rfl
instance Try.zero113 : Zero Try.prog 113 [.bool false, .int .i64 0, .int .i64 0, .int .i64 0, .int .i64 0] := ⟨.agg #[.bool false, .int .i64 0, .int .i64 0, .int .i64 0, .int .i64 0], fun _ => by kernel_rfl, rfl⟩
instance Try.agg114 : Agg Try.prog 114 4 := agg_of Try.underlying114 rfl (by kernel_rfl)
instance Try.fld114_0 : FieldOff Try.prog 114 0 0 := field_of (m := 1) Try.underlying114 (by kernel_rfl) rfl
instance Try.fld114_1 : FieldOff Try.prog 114 1 1 := field_of (m := 1) Try.underlying114 (by kernel_rfl) rfl
instance Try.fld114_2 : FieldOff Try.prog 114 2 2 := field_of (m := 1) Try.underlying114 (by kernel_rfl) rfl
instance Try.fld114_3 : FieldOff Try.prog 114 3 3 := field_of (m := 1) Try.underlying114 (by kernel_rfl) rfl
instance Try.zero114 : Zero Try.prog 114 [.slice none 0 0, .slice none 0 0, .slice none 0 0, .int .u32 0] := ⟨.agg #[.slice none 0 0, .slice none 0 0, .slice none 0 0, .int .u32 0], fun _ => by kernel_rfl, rfl⟩
instance Try.agg115 : Agg Try.prog 115 4 := agg_of Try.underlying115 rfl (by kernel_rfl)
instance Try.fld115_0 : FieldOff Try.prog 115 0 0 := field_of (m := 1) Try.underlying115 (by kernel_rfl) rfl
instance Try.fld115_1 : FieldOff Try.prog 115 1 1 := field_of (m := 1) Try.underlying115 (by kernel_rfl) rfl
instance Try.fld115_2 : FieldOff Try.prog 115 2 2 := field_of (m := 1) Try.underlying115 (by kernel_rfl) rfl
instance Try.fld115_3 : FieldOff Try.prog 115 3 3 := field_of (m := 1) Try.underlying115 (by kernel_rfl) rfl
instance Try.zero115 : Zero Try.prog 115 [.slice none 0 0, .slice none 0 0, .slice none 0 0, .int .u32 0] := ⟨.agg #[.slice none 0 0, .slice none 0 0, .slice none 0 0, .int .u32 0], fun _ => by kernel_rfl, rfl⟩
instance Try.uty122 : UTy Try.prog 122 (.array 0 16) := ⟨Try.underlying122⟩
instance Try.zero122 : Zero Try.prog 122 [] := ⟨.agg #[], fun _ => by kernel_rfl, rfl⟩
instance Try.uty128 : UTy Try.prog 128 (.pointer 5) := ⟨Try.underlying128⟩
instance Try.sca128 : Scalar Try.prog 128 := scalar_of Try.underlying128 rfl (by kernel_rfl)
instance Try.zero128 : Zero Try.prog 128 [.pointer none] := ⟨.pointer none, fun _ => by kernel_rfl, rfl⟩
instance Try.agg131 : Agg Try.prog 131 11 := agg_of Try.underlying131 rfl (by kernel_rfl)
instance Try.fld131_0 : FieldOff Try.prog 131 0 0 := field_of (m := 1) Try.underlying131 (by kernel_rfl) rfl
instance Try.fld131_1 : FieldOff Try.prog 131 1 1 := field_of (m := 1) Try.underlying131 (by kernel_rfl) rfl
instance Try.fld131_2 : FieldOff Try.prog 131 2 2 := field_of (m := 1) Try.underlying131 (by kernel_rfl) rfl
instance Try.fld131_3 : FieldOff Try.prog 131 3 3 := field_of (m := 1) Try.underlying131 (by kernel_rfl) rfl
instance Try.fld131_4 : FieldOff Try.prog 131 4 4 := field_of (m := 1) Try.underlying131 (by kernel_rfl) rfl
instance Try.fld131_5 : FieldOff Try.prog 131 5 5 := field_of (m := 1) Try.underlying131 (by kernel_rfl) rfl
instance Try.fld131_6 : FieldOff Try.prog 131 6 6 := field_of (m := 1) Try.underlying131 (by kernel_rfl) rfl
instance Try.fld131_7 : FieldOff Try.prog 131 7 7 := field_of (m := 1) Try.underlying131 (by kernel_rfl) rfl
instance Try.fld131_8 : FieldOff Try.prog 131 8 8 := field_of (m := 1) Try.underlying131 (by kernel_rfl) rfl
instance Try.fld131_9 : FieldOff Try.prog 131 9 9 := field_of (m := 1) Try.underlying131 (by kernel_rfl) rfl
instance Try.fld131_10 : FieldOff Try.prog 131 10 10 := field_of (m := 1) Try.underlying131 (by kernel_rfl) rfl
instance Try.zero131 : Zero Try.prog 131 [.int .u64 0, .int .u64 0, .int .u32 0, .int .u8 0, .int .u8 0, .int .u8 0, .int .u8 0, .nilFunc, .pointer none, .int .i32 0, .int .i32 0] := ⟨.agg #[.int .u64 0, .int .u64 0, .int .u32 0, .int .u8 0, .int .u8 0, .int .u8 0, .int .u8 0, .nilFunc, .pointer none, .int .i32 0, .int .i32 0], fun _ => by kernel_rfl, rfl⟩
instance Try.part2 : PartT Try.prog 2 none := part_scalar inferInstance
instance Try.eqp2 : EqP Try.prog 2 [true] 1 := eqp_int Try.underlying2 inferInstance
instance Try.part3 : PartT Try.prog 3 none := part_scalar inferInstance
instance Try.eqp3 : EqP Try.prog 3 [true] 1 := eqp_int Try.underlying3 inferInstance
instance Try.part4 : PartT Try.prog 4 none := part_scalar inferInstance
instance Try.eqp4 : EqP Try.prog 4 [false] 1 := eqp_bool Try.underlying4 inferInstance
instance Try.part5 : PartT Try.prog 5 none := part_scalar inferInstance
instance Try.eqp5 : EqP Try.prog 5 [true] 1 := eqp_int Try.underlying5 inferInstance
instance Try.part9 : PartT Try.prog 9 none := part_scalar inferInstance
instance Try.part12 : PartT Try.prog 12 none := part_scalar inferInstance
instance Try.eqp12 : EqP Try.prog 12 [true] 1 := eqp_int Try.underlying12 inferInstance
instance Try.part15 : PartT Try.prog 15 none := part_scalar inferInstance
instance Try.part16 : PartT Try.prog 16 none := part_scalar inferInstance
instance Try.part17 : PartT Try.prog 17 none := part_scalar inferInstance
instance Try.part21 : PartT Try.prog 21 none := part_scalar inferInstance
instance Try.eqp21 : EqP Try.prog 21 [true] 1 := eqp_int Try.underlying21 inferInstance
instance Try.part22 : PartT Try.prog 22 none := part_scalar inferInstance
instance Try.part23 : PartT Try.prog 23 none := part_scalar inferInstance
instance Try.eqp23 : EqP Try.prog 23 [true] 1 := eqp_int Try.underlying23 inferInstance
instance Try.part27 : PartT Try.prog 27 none := part_scalar inferInstance
instance Try.eqp27 : EqP Try.prog 27 [true] 1 := eqp_int Try.underlying27 inferInstance
instance Try.part33 : PartT Try.prog 33 none := part_scalar inferInstance
instance Try.part34 : PartT Try.prog 34 none := part_scalar inferInstance
instance Try.part35 : PartT Try.prog 35 (some 2) := part_agg inferInstance rfl
instance Try.bld35 : Bld Try.prog 35 [[.slice none 0 0], [.slice none 0 0]] := bld_struct Try.underlying35 (z := .agg #[.slice none 0 0, .slice none 0 0]) (fun _ => by kernel_rfl) rfl (by kernel_rfl) rfl
instance Try.fv35_0 : FieldV Try.prog 35 0 33 0 := fieldV_of Try.underlying35 (by kernel_rfl)
instance Try.fv35_1 : FieldV Try.prog 35 1 34 1 := fieldV_of Try.underlying35 (by kernel_rfl)
instance Try.part36 : PartT Try.prog 36 (some 2) := part_agg inferInstance rfl
instance Try.bld36 : Bld Try.prog 36 [[.slice none 0 0], [.slice none 0 0]] := bld_struct Try.underlying36 (z := .agg #[.slice none 0 0, .slice none 0 0]) (fun _ => by kernel_rfl) rfl (by kernel_rfl) rfl
instance Try.fv36_0 : FieldV Try.prog 36 0 33 0 := fieldV_of Try.underlying36 (by kernel_rfl)
instance Try.fv36_1 : FieldV Try.prog 36 1 34 1 := fieldV_of Try.underlying36 (by kernel_rfl)
instance Try.part39 : PartT Try.prog 39 none := part_scalar inferInstance
instance Try.part44 : PartT Try.prog 44 (some 4) := part_agg inferInstance rfl
instance Try.bld44 : Bld Try.prog 44 [[.int .i64 0], [.int .u32 0], [.int .i64 0], [.int .i64 0]] := bld_struct Try.underlying44 (z := .agg #[.int .i64 0, .int .u32 0, .int .i64 0, .int .i64 0]) (fun _ => by kernel_rfl) rfl (by kernel_rfl) rfl
instance Try.fv44_0 : FieldV Try.prog 44 0 3 0 := fieldV_of Try.underlying44 (by kernel_rfl)
instance Try.fv44_1 : FieldV Try.prog 44 1 27 1 := fieldV_of Try.underlying44 (by kernel_rfl)
instance Try.fv44_2 : FieldV Try.prog 44 2 3 2 := fieldV_of Try.underlying44 (by kernel_rfl)
instance Try.fv44_3 : FieldV Try.prog 44 3 3 3 := fieldV_of Try.underlying44 (by kernel_rfl)
instance Try.eqp44 : EqP Try.prog 44 [true, true, true, true] 2 := eqp_struct Try.underlying44 inferInstance rfl rfl (by kernel_rfl) ⟨by decide, rfl, [true], [true, true, true], 1, inferInstance, by decide, rfl, ⟨by decide, rfl, [true], [true, true], 1, inferInstance, by decide, rfl, ⟨by decide, rfl, [true], [true], 1, inferInstance, by decide, rfl, ⟨by decide, rfl, [true], [], 1, inferInstance, by decide, rfl, rfl⟩⟩⟩⟩
instance Try.eqg44 : EqG Try.prog 44 := ⟨by kernel_rfl⟩
instance Try.part45 : PartT Try.prog 45 (some 4) := part_agg inferInstance rfl
instance Try.bld45 : Bld Try.prog 45 [[.int .i64 0], [.int .u32 0], [.int .i64 0], [.int .i64 0]] := bld_struct Try.underlying45 (z := .agg #[.int .i64 0, .int .u32 0, .int .i64 0, .int .i64 0]) (fun _ => by kernel_rfl) rfl (by kernel_rfl) rfl
instance Try.fv45_0 : FieldV Try.prog 45 0 3 0 := fieldV_of Try.underlying45 (by kernel_rfl)
instance Try.fv45_1 : FieldV Try.prog 45 1 27 1 := fieldV_of Try.underlying45 (by kernel_rfl)
instance Try.fv45_2 : FieldV Try.prog 45 2 3 2 := fieldV_of Try.underlying45 (by kernel_rfl)
instance Try.fv45_3 : FieldV Try.prog 45 3 3 3 := fieldV_of Try.underlying45 (by kernel_rfl)
instance Try.eqp45 : EqP Try.prog 45 [true, true, true, true] 2 := eqp_struct Try.underlying45 inferInstance rfl rfl (by kernel_rfl) ⟨by decide, rfl, [true], [true, true, true], 1, inferInstance, by decide, rfl, ⟨by decide, rfl, [true], [true, true], 1, inferInstance, by decide, rfl, ⟨by decide, rfl, [true], [true], 1, inferInstance, by decide, rfl, ⟨by decide, rfl, [true], [], 1, inferInstance, by decide, rfl, rfl⟩⟩⟩⟩
instance Try.eqg45 : EqG Try.prog 45 := ⟨by kernel_rfl⟩
instance Try.part46 : PartT Try.prog 46 none := part_scalar inferInstance
instance Try.part48 : PartT Try.prog 48 none := part_scalar inferInstance
instance Try.part49 : PartT Try.prog 49 (some 8) := part_agg inferInstance rfl
instance Try.bld49 : Bld Try.prog 49 [[.int .i64 0], [.int .i64 0], [.int .u32 0], [.int .u32 0], [.int .i64 0], [.int .i64 0], [.int .i64 0], [.int .i64 0]] := bld_struct Try.underlying49 (z := .agg #[.int .i64 0, .int .i64 0, .int .u32 0, .int .u32 0, .int .i64 0, .int .i64 0, .int .i64 0, .int .i64 0]) (fun _ => by kernel_rfl) rfl (by kernel_rfl) rfl
instance Try.fv49_0 : FieldV Try.prog 49 0 2 0 := fieldV_of Try.underlying49 (by kernel_rfl)
instance Try.fv49_1 : FieldV Try.prog 49 1 2 1 := fieldV_of Try.underlying49 (by kernel_rfl)
instance Try.fv49_2 : FieldV Try.prog 49 2 27 2 := fieldV_of Try.underlying49 (by kernel_rfl)
instance Try.fv49_3 : FieldV Try.prog 49 3 27 3 := fieldV_of Try.underlying49 (by kernel_rfl)
instance Try.fv49_4 : FieldV Try.prog 49 4 3 4 := fieldV_of Try.underlying49 (by kernel_rfl)
instance Try.fv49_5 : FieldV Try.prog 49 5 2 5 := fieldV_of Try.underlying49 (by kernel_rfl)
instance Try.fv49_6 : FieldV Try.prog 49 6 2 6 := fieldV_of Try.underlying49 (by kernel_rfl)
instance Try.fv49_7 : FieldV Try.prog 49 7 2 7 := fieldV_of Try.underlying49 (by kernel_rfl)
instance Try.eqp49 : EqP Try.prog 49 [true, true, true, true, true, true, true, true] 2 := eqp_struct Try.underlying49 inferInstance rfl rfl (by kernel_rfl) ⟨by decide, rfl, [true], [true, true, true, true, true, true, true], 1, inferInstance, by decide, rfl, ⟨by decide, rfl, [true], [true, true, true, true, true, true], 1, inferInstance, by decide, rfl, ⟨by decide, rfl, [true], [true, true, true, true, true], 1, inferInstance, by decide, rfl, ⟨by decide, rfl, [true], [true, true, true, true], 1, inferInstance, by decide, rfl, ⟨by decide, rfl, [true], [true, true, true], 1, inferInstance, by decide, rfl, ⟨by decide, rfl, [true], [true, true], 1, inferInstance, by decide, rfl, ⟨by decide, rfl, [true], [true], 1, inferInstance, by decide, rfl, ⟨by decide, rfl, [true], [], 1, inferInstance, by decide, rfl, rfl⟩⟩⟩⟩⟩⟩⟩⟩
instance Try.eqg49 : EqG Try.prog 49 := ⟨by kernel_rfl⟩
instance Try.part50 : PartT Try.prog 50 (some 8) := part_agg inferInstance rfl
instance Try.bld50 : Bld Try.prog 50 [[.int .i64 0], [.int .i64 0], [.int .u32 0], [.int .u32 0], [.int .i64 0], [.int .i64 0], [.int .i64 0], [.int .i64 0]] := bld_struct Try.underlying50 (z := .agg #[.int .i64 0, .int .i64 0, .int .u32 0, .int .u32 0, .int .i64 0, .int .i64 0, .int .i64 0, .int .i64 0]) (fun _ => by kernel_rfl) rfl (by kernel_rfl) rfl
instance Try.fv50_0 : FieldV Try.prog 50 0 2 0 := fieldV_of Try.underlying50 (by kernel_rfl)
instance Try.fv50_1 : FieldV Try.prog 50 1 2 1 := fieldV_of Try.underlying50 (by kernel_rfl)
instance Try.fv50_2 : FieldV Try.prog 50 2 27 2 := fieldV_of Try.underlying50 (by kernel_rfl)
instance Try.fv50_3 : FieldV Try.prog 50 3 27 3 := fieldV_of Try.underlying50 (by kernel_rfl)
instance Try.fv50_4 : FieldV Try.prog 50 4 3 4 := fieldV_of Try.underlying50 (by kernel_rfl)
instance Try.fv50_5 : FieldV Try.prog 50 5 2 5 := fieldV_of Try.underlying50 (by kernel_rfl)
instance Try.fv50_6 : FieldV Try.prog 50 6 2 6 := fieldV_of Try.underlying50 (by kernel_rfl)
instance Try.fv50_7 : FieldV Try.prog 50 7 2 7 := fieldV_of Try.underlying50 (by kernel_rfl)
instance Try.eqp50 : EqP Try.prog 50 [true, true, true, true, true, true, true, true] 2 := eqp_struct Try.underlying50 inferInstance rfl rfl (by kernel_rfl) ⟨by decide, rfl, [true], [true, true, true, true, true, true, true], 1, inferInstance, by decide, rfl, ⟨by decide, rfl, [true], [true, true, true, true, true, true], 1, inferInstance, by decide, rfl, ⟨by decide, rfl, [true], [true, true, true, true, true], 1, inferInstance, by decide, rfl, ⟨by decide, rfl, [true], [true, true, true, true], 1, inferInstance, by decide, rfl, ⟨by decide, rfl, [true], [true, true, true], 1, inferInstance, by decide, rfl, ⟨by decide, rfl, [true], [true, true], 1, inferInstance, by decide, rfl, ⟨by decide, rfl, [true], [true], 1, inferInstance, by decide, rfl, ⟨by decide, rfl, [true], [], 1, inferInstance, by decide, rfl, rfl⟩⟩⟩⟩⟩⟩⟩⟩
instance Try.eqg50 : EqG Try.prog 50 := ⟨by kernel_rfl⟩
instance Try.part51 : PartT Try.prog 51 (some 11) := part_agg inferInstance rfl
instance Try.bld51 : Bld Try.prog 51 [[.bool false], [.int .i64 0], [.int .u32 0], [.int .i64 0, .int .i64 0, .int .u32 0, .int .u32 0, .int .i64 0, .int .i64 0, .int .i64 0, .int .i64 0]] := bld_struct Try.underlying51 (z := .agg #[.bool false, .int .i64 0, .int .u32 0, .int .i64 0, .int .i64 0, .int .u32 0, .int .u32 0, .int .i64 0, .int .i64 0, .int .i64 0, .int .i64 0]) (fun _ => by kernel_rfl) rfl (by kernel_rfl) rfl
instance Try.fv51_0 : FieldV Try.prog 51 0 4 0 := fieldV_of Try.underlying51 (by kernel_rfl)
instance Try.fv51_1 : FieldV Try.prog 51 1 3 1 := fieldV_of Try.underlying51 (by kernel_rfl)
instance Try.fv51_2 : FieldV Try.prog 51 2 27 2 := fieldV_of Try.underlying51 (by kernel_rfl)
instance Try.fv51_3 : FieldV Try.prog 51 3 50 3 := fieldV_of Try.underlying51 (by kernel_rfl)
instance Try.eqp51 : EqP Try.prog 51 [false, true, true, true, true, true, true, true, true, true, true] 3 := eqp_struct Try.underlying51 inferInstance rfl rfl (by kernel_rfl) ⟨by decide, rfl, [false], [true, true, true, true, true, true, true, true, true, true], 1, inferInstance, by decide, rfl, ⟨by decide, rfl, [true], [true, true, true, true, true, true, true, true, true], 1, inferInstance, by decide, rfl, ⟨by decide, rfl, [true], [true, true, true, true, true, true, true, true], 1, inferInstance, by decide, rfl, ⟨by decide, rfl, [true, true, true, true, true, true, true, true], [], 2, inferInstance, by decide, rfl, rfl⟩⟩⟩⟩
instance Try.eqg51 : EqG Try.prog 51 := ⟨by kernel_rfl⟩
instance Try.part52 : PartT Try.prog 52 (some 11) := part_agg inferInstance rfl
instance Try.bld52 : Bld Try.prog 52 [[.bool false], [.int .i64 0], [.int .u32 0], [.int .i64 0, .int .i64 0, .int .u32 0, .int .u32 0, .int .i64 0, .int .i64 0, .int .i64 0, .int .i64 0]] := bld_struct Try.underlying52 (z := .agg #[.bool false, .int .i64 0, .int .u32 0, .int .i64 0, .int .i64 0, .int .u32 0, .int .u32 0, .int .i64 0, .int .i64 0, .int .i64 0, .int .i64 0]) (fun _ => by kernel_rfl) rfl (by kernel_rfl) rfl
instance Try.fv52_0 : FieldV Try.prog 52 0 4 0 := fieldV_of Try.underlying52 (by kernel_rfl)
instance Try.fv52_1 : FieldV Try.prog 52 1 3 1 := fieldV_of Try.underlying52 (by kernel_rfl)
instance Try.fv52_2 : FieldV Try.prog 52 2 27 2 := fieldV_of Try.underlying52 (by kernel_rfl)
instance Try.fv52_3 : FieldV Try.prog 52 3 50 3 := fieldV_of Try.underlying52 (by kernel_rfl)
instance Try.eqp52 : EqP Try.prog 52 [false, true, true, true, true, true, true, true, true, true, true] 3 := eqp_struct Try.underlying52 inferInstance rfl rfl (by kernel_rfl) ⟨by decide, rfl, [false], [true, true, true, true, true, true, true, true, true, true], 1, inferInstance, by decide, rfl, ⟨by decide, rfl, [true], [true, true, true, true, true, true, true, true, true], 1, inferInstance, by decide, rfl, ⟨by decide, rfl, [true], [true, true, true, true, true, true, true, true], 1, inferInstance, by decide, rfl, ⟨by decide, rfl, [true, true, true, true, true, true, true, true], [], 2, inferInstance, by decide, rfl, rfl⟩⟩⟩⟩
instance Try.eqg52 : EqG Try.prog 52 := ⟨by kernel_rfl⟩
instance Try.part55 : PartT Try.prog 55 none := part_scalar inferInstance
instance Try.eqp55 : EqP Try.prog 55 [true] 1 := eqp_int Try.underlying55 inferInstance
instance Try.part59 : PartT Try.prog 59 none := part_scalar inferInstance
instance Try.part62 : PartT Try.prog 62 none := part_scalar inferInstance
instance Try.part63 : PartT Try.prog 63 none := part_scalar inferInstance
instance Try.part66 : PartT Try.prog 66 (some 2) := part_agg inferInstance rfl
instance Try.bld66 : Bld Try.prog 66 [[.pointer none], [.slice none 0 0]] := bld_struct Try.underlying66 (z := .agg #[.pointer none, .slice none 0 0]) (fun _ => by kernel_rfl) rfl (by kernel_rfl) rfl
instance Try.fv66_0 : FieldV Try.prog 66 0 22 0 := fieldV_of Try.underlying66 (by kernel_rfl)
instance Try.fv66_1 : FieldV Try.prog 66 1 34 1 := fieldV_of Try.underlying66 (by kernel_rfl)
instance Try.part67 : PartT Try.prog 67 (some 2) := part_agg inferInstance rfl
instance Try.bld67 : Bld Try.prog 67 [[.pointer none], [.slice none 0 0]] := bld_struct Try.underlying67 (z := .agg #[.pointer none, .slice none 0 0]) (fun _ => by kernel_rfl) rfl (by kernel_rfl) rfl
instance Try.fv67_0 : FieldV Try.prog 67 0 22 0 := fieldV_of Try.underlying67 (by kernel_rfl)
instance Try.fv67_1 : FieldV Try.prog 67 1 34 1 := fieldV_of Try.underlying67 (by kernel_rfl)
instance Try.part76 : PartT Try.prog 76 (some 5) := part_agg inferInstance rfl
instance Try.bld76 : Bld Try.prog 76 [[.int .i64 0], [.int .i64 0], [.int .i64 0], [.int .u32 0], [.int .u32 0]] := bld_struct Try.underlying76 (z := .agg #[.int .i64 0, .int .i64 0, .int .i64 0, .int .u32 0, .int .u32 0]) (fun _ => by kernel_rfl) rfl (by kernel_rfl) rfl
instance Try.fv76_0 : FieldV Try.prog 76 0 3 0 := fieldV_of Try.underlying76 (by kernel_rfl)
instance Try.fv76_1 : FieldV Try.prog 76 1 2 1 := fieldV_of Try.underlying76 (by kernel_rfl)
instance Try.fv76_2 : FieldV Try.prog 76 2 2 2 := fieldV_of Try.underlying76 (by kernel_rfl)
instance Try.fv76_3 : FieldV Try.prog 76 3 27 3 := fieldV_of Try.underlying76 (by kernel_rfl)
instance Try.fv76_4 : FieldV Try.prog 76 4 27 4 := fieldV_of Try.underlying76 (by kernel_rfl)
instance Try.eqp76 : EqP Try.prog 76 [true, true, true, true, true] 2 := eqp_struct Try.underlying76 inferInstance rfl rfl (by kernel_rfl) ⟨by decide, rfl, [true], [true, true, true, true], 1, inferInstance, by decide, rfl, ⟨by decide, rfl, [true], [true, true, true], 1, inferInstance, by decide, rfl, ⟨by decide, rfl, [true], [true, true], 1, inferInstance, by decide, rfl, ⟨by decide, rfl, [true], [true], 1, inferInstance, by decide, rfl, ⟨by decide, rfl, [true], [], 1, inferInstance, by decide, rfl, rfl⟩⟩⟩⟩⟩
instance Try.eqg76 : EqG Try.prog 76 := ⟨by kernel_rfl⟩
instance Try.part77 : PartT Try.prog 77 (some 5) := part_agg inferInstance rfl
instance Try.bld77 : Bld Try.prog 77 [[.int .i64 0], [.int .i64 0], [.int .i64 0], [.int .u32 0], [.int .u32 0]] := bld_struct Try.underlying77 (z := .agg #[.int .i64 0, .int .i64 0, .int .i64 0, .int .u32 0, .int .u32 0]) (fun _ => by kernel_rfl) rfl (by kernel_rfl) rfl
instance Try.fv77_0 : FieldV Try.prog 77 0 3 0 := fieldV_of Try.underlying77 (by kernel_rfl)
instance Try.fv77_1 : FieldV Try.prog 77 1 2 1 := fieldV_of Try.underlying77 (by kernel_rfl)
instance Try.fv77_2 : FieldV Try.prog 77 2 2 2 := fieldV_of Try.underlying77 (by kernel_rfl)
instance Try.fv77_3 : FieldV Try.prog 77 3 27 3 := fieldV_of Try.underlying77 (by kernel_rfl)
instance Try.fv77_4 : FieldV Try.prog 77 4 27 4 := fieldV_of Try.underlying77 (by kernel_rfl)
instance Try.eqp77 : EqP Try.prog 77 [true, true, true, true, true] 2 := eqp_struct Try.underlying77 inferInstance rfl rfl (by kernel_rfl) ⟨by decide, rfl, [true], [true, true, true, true], 1, inferInstance, by decide, rfl, ⟨by decide, rfl, [true], [true, true, true], 1, inferInstance, by decide, rfl, ⟨by decide, rfl, [true], [true, true], 1, inferInstance, by decide, rfl, ⟨by decide, rfl, [true], [true], 1, inferInstance, by decide, rfl, ⟨by decide, rfl, [true], [], 1, inferInstance, by decide, rfl, rfl⟩⟩⟩⟩⟩
instance Try.eqg77 : EqG Try.prog 77 := ⟨by kernel_rfl⟩
instance Try.part81 : PartT Try.prog 81 (some 5) := part_agg inferInstance rfl
instance Try.bld81 : Bld Try.prog 81 [[.int .i64 0], [.slice none 0 0], [.int .i64 0], [.slice none 0 0], [.slice none 0 0]] := bld_struct Try.underlying81 (z := .agg #[.int .i64 0, .slice none 0 0, .int .i64 0, .slice none 0 0, .slice none 0 0]) (fun _ => by kernel_rfl) rfl (by kernel_rfl) rfl
instance Try.fv81_0 : FieldV Try.prog 81 0 3 0 := fieldV_of Try.underlying81 (by kernel_rfl)
instance Try.fv81_1 : FieldV Try.prog 81 1 34 1 := fieldV_of Try.underlying81 (by kernel_rfl)
instance Try.fv81_2 : FieldV Try.prog 81 2 3 2 := fieldV_of Try.underlying81 (by kernel_rfl)
instance Try.fv81_3 : FieldV Try.prog 81 3 34 3 := fieldV_of Try.underlying81 (by kernel_rfl)
instance Try.fv81_4 : FieldV Try.prog 81 4 48 4 := fieldV_of Try.underlying81 (by kernel_rfl)
instance Try.part82 : PartT Try.prog 82 (some 5) := part_agg inferInstance rfl
instance Try.bld82 : Bld Try.prog 82 [[.int .i64 0], [.slice none 0 0], [.int .i64 0], [.slice none 0 0], [.slice none 0 0]] := bld_struct Try.underlying82 (z := .agg #[.int .i64 0, .slice none 0 0, .int .i64 0, .slice none 0 0, .slice none 0 0]) (fun _ => by kernel_rfl) rfl (by kernel_rfl) rfl
instance Try.fv82_0 : FieldV Try.prog 82 0 3 0 := fieldV_of Try.underlying82 (by kernel_rfl)
instance Try.fv82_1 : FieldV Try.prog 82 1 34 1 := fieldV_of Try.underlying82 (by kernel_rfl)
instance Try.fv82_2 : FieldV Try.prog 82 2 3 2 := fieldV_of Try.underlying82 (by kernel_rfl)
instance Try.fv82_3 : FieldV Try.prog 82 3 34 3 := fieldV_of Try.underlying82 (by kernel_rfl)
instance Try.fv82_4 : FieldV Try.prog 82 4 48 4 := fieldV_of Try.underlying82 (by kernel_rfl)
instance Try.part83 : PartT Try.prog 83 none := part_scalar inferInstance
instance Try.part84 : PartT Try.prog 84 (some 8) := part_agg inferInstance rfl
instance Try.bld84 : Bld Try.prog 84 [[.int .i64 0, .slice none 0 0, .int .i64 0, .slice none 0 0, .slice none 0 0], [.slice none 0 0], [.slice none 0 0], [.int .u64 0]] := bld_struct Try.underlying84 (z := .agg #[.int .i64 0, .slice none 0 0, .int .i64 0, .slice none 0 0, .slice none 0 0, .slice none 0 0, .slice none 0 0, .int .u64 0]) (fun _ => by kernel_rfl) rfl (by kernel_rfl) rfl
instance Try.fv84_0 : FieldV Try.prog 84 0 82 0 := fieldV_of Try.underlying84 (by kernel_rfl)
instance Try.fv84_1 : FieldV Try.prog 84 1 83 5 := fieldV_of Try.underlying84 (by kernel_rfl)
instance Try.fv84_2 : FieldV Try.prog 84 2 39 6 := fieldV_of Try.underlying84 (by kernel_rfl)
instance Try.fv84_3 : FieldV Try.prog 84 3 55 7 := fieldV_of Try.underlying84 (by kernel_rfl)
instance Try.part85 : PartT Try.prog 85 (some 8) := part_agg inferInstance rfl
instance Try.bld85 : Bld Try.prog 85 [[.int .i64 0, .slice none 0 0, .int .i64 0, .slice none 0 0, .slice none 0 0], [.slice none 0 0], [.slice none 0 0], [.int .u64 0]] := bld_struct Try.underlying85 (z := .agg #[.int .i64 0, .slice none 0 0, .int .i64 0, .slice none 0 0, .slice none 0 0, .slice none 0 0, .slice none 0 0, .int .u64 0]) (fun _ => by kernel_rfl) rfl (by kernel_rfl) rfl
instance Try.fv85_0 : FieldV Try.prog 85 0 82 0 := fieldV_of Try.underlying85 (by kernel_rfl)
instance Try.fv85_1 : FieldV Try.prog 85 1 83 5 := fieldV_of Try.underlying85 (by kernel_rfl)
instance Try.fv85_2 : FieldV Try.prog 85 2 39 6 := fieldV_of Try.underlying85 (by kernel_rfl)
instance Try.fv85_3 : FieldV Try.prog 85 3 55 7 := fieldV_of Try.underlying85 (by kernel_rfl)
instance Try.part87 : PartT Try.prog 87 none := part_scalar inferInstance
instance Try.part93 : PartT Try.prog 93 none := part_scalar inferInstance
instance Try.part96 : PartT Try.prog 96 (some 4) := part_agg inferInstance rfl
instance Try.bld96 : Bld Try.prog 96 [[.pointer none], [.slice none 0 0], [.slice none 0 0], [.int .u64 0]] := bld_struct Try.underlying96 (z := .agg #[.pointer none, .slice none 0 0, .slice none 0 0, .int .u64 0]) (fun _ => by kernel_rfl) rfl (by kernel_rfl) rfl
instance Try.fv96_0 : FieldV Try.prog 96 0 93 0 := fieldV_of Try.underlying96 (by kernel_rfl)
instance Try.fv96_1 : FieldV Try.prog 96 1 83 1 := fieldV_of Try.underlying96 (by kernel_rfl)
instance Try.fv96_2 : FieldV Try.prog 96 2 39 2 := fieldV_of Try.underlying96 (by kernel_rfl)
instance Try.fv96_3 : FieldV Try.prog 96 3 55 3 := fieldV_of Try.underlying96 (by kernel_rfl)
instance Try.part97 : PartT Try.prog 97 (some 4) := part_agg inferInstance rfl
instance Try.bld97 : Bld Try.prog 97 [[.pointer none], [.slice none 0 0], [.slice none 0 0], [.int .u64 0]] := bld_struct Try.underlying97 (z := .agg #[.pointer none, .slice none 0 0, .slice none 0 0, .int .u64 0]) (fun _ => by kernel_rfl) rfl (by kernel_rfl) rfl
instance Try.fv97_0 : FieldV Try.prog 97 0 93 0 := fieldV_of Try.underlying97 (by kernel_rfl)
instance Try.fv97_1 : FieldV Try.prog 97 1 83 1 := fieldV_of Try.underlying97 (by kernel_rfl)
instance Try.fv97_2 : FieldV Try.prog 97 2 39 2 := fieldV_of Try.underlying97 (by kernel_rfl)
instance Try.fv97_3 : FieldV Try.prog 97 3 55 3 := fieldV_of Try.underlying97 (by kernel_rfl)
instance Try.part98 : PartT Try.prog 98 (some 2) := part_agg inferInstance rfl
instance Try.bld98 : Bld Try.prog 98 [[.int .u32 0], [.int .u32 0]] := bld_array (m := 1) Try.underlying98 (z := .agg #[.int .u32 0, .int .u32 0]) (fun _ => by kernel_rfl) rfl (by kernel_rfl) (by decide) rfl
instance Try.part100 : PartT Try.prog 100 none := part_scalar inferInstance
instance Try.part112 : PartT Try.prog 112 (some 5) := part_agg inferInstance rfl
instance Try.bld112 : Bld Try.prog 112 [[.bool false], [.int .i64 0], [.int .i64 0], [.int .i64 0], [.int .i64 0]] := bld_struct Try.underlying112 (z := .agg #[.bool false, .int .i64 0, .int .i64 0, .int .i64 0, .int .i64 0]) (fun _ => by kernel_rfl) rfl (by kernel_rfl) rfl
instance Try.fv112_0 : FieldV Try.prog 112 0 4 0 := fieldV_of Try.underlying112 (by kernel_rfl)
instance Try.fv112_1 : FieldV Try.prog 112 1 2 1 := fieldV_of Try.underlying112 (by kernel_rfl)
instance Try.fv112_2 : FieldV Try.prog 112 2 2 2 := fieldV_of Try.underlying112 (by kernel_rfl)
instance Try.fv112_3 : FieldV Try.prog 112 3 3 3 := fieldV_of Try.underlying112 (by kernel_rfl)
instance Try.fv112_4 : FieldV Try.prog 112 4 3 4 := fieldV_of Try.underlying112 (by kernel_rfl)
instance Try.eqp112 : EqP Try.prog 112 [false, true, true, true, true] 2 := eqp_struct Try.underlying112 inferInstance rfl rfl (by kernel_rfl) ⟨by decide, rfl, [false], [true, true, true, true], 1, inferInstance, by decide, rfl, ⟨by decide, rfl, [true], [true, true, true], 1, inferInstance, by decide, rfl, ⟨by decide, rfl, [true], [true, true], 1, inferInstance, by decide, rfl, ⟨by decide, rfl, [true], [true], 1, inferInstance, by decide, rfl, ⟨by decide, rfl, [true], [], 1, inferInstance, by decide, rfl, rfl⟩⟩⟩⟩⟩
instance Try.eqg112 : EqG Try.prog 112 := ⟨by kernel_rfl⟩
instance Try.part113 : PartT Try.prog 113 (some 5) := part_agg inferInstance rfl
instance Try.bld113 : Bld Try.prog 113 [[.bool false], [.int .i64 0], [.int .i64 0], [.int .i64 0], [.int .i64 0]] := bld_struct Try.underlying113 (z := .agg #[.bool false, .int .i64 0, .int .i64 0, .int .i64 0, .int .i64 0]) (fun _ => by kernel_rfl) rfl (by kernel_rfl) rfl
instance Try.fv113_0 : FieldV Try.prog 113 0 4 0 := fieldV_of Try.underlying113 (by kernel_rfl)
instance Try.fv113_1 : FieldV Try.prog 113 1 2 1 := fieldV_of Try.underlying113 (by kernel_rfl)
instance Try.fv113_2 : FieldV Try.prog 113 2 2 2 := fieldV_of Try.underlying113 (by kernel_rfl)
instance Try.fv113_3 : FieldV Try.prog 113 3 3 3 := fieldV_of Try.underlying113 (by kernel_rfl)
instance Try.fv113_4 : FieldV Try.prog 113 4 3 4 := fieldV_of Try.underlying113 (by kernel_rfl)
instance Try.eqp113 : EqP Try.prog 113 [false, true, true, true, true] 2 := eqp_struct Try.underlying113 inferInstance rfl rfl (by kernel_rfl) ⟨by decide, rfl, [false], [true, true, true, true], 1, inferInstance, by decide, rfl, ⟨by decide, rfl, [true], [true, true, true], 1, inferInstance, by decide, rfl, ⟨by decide, rfl, [true], [true, true], 1, inferInstance, by decide, rfl, ⟨by decide, rfl, [true], [true], 1, inferInstance, by decide, rfl, ⟨by decide, rfl, [true], [], 1, inferInstance, by decide, rfl, rfl⟩⟩⟩⟩⟩
instance Try.eqg113 : EqG Try.prog 113 := ⟨by kernel_rfl⟩
instance Try.part114 : PartT Try.prog 114 (some 4) := part_agg inferInstance rfl
instance Try.bld114 : Bld Try.prog 114 [[.slice none 0 0], [.slice none 0 0], [.slice none 0 0], [.int .u32 0]] := bld_struct Try.underlying114 (z := .agg #[.slice none 0 0, .slice none 0 0, .slice none 0 0, .int .u32 0]) (fun _ => by kernel_rfl) rfl (by kernel_rfl) rfl
instance Try.fv114_0 : FieldV Try.prog 114 0 48 0 := fieldV_of Try.underlying114 (by kernel_rfl)
instance Try.fv114_1 : FieldV Try.prog 114 1 34 1 := fieldV_of Try.underlying114 (by kernel_rfl)
instance Try.fv114_2 : FieldV Try.prog 114 2 34 2 := fieldV_of Try.underlying114 (by kernel_rfl)
instance Try.fv114_3 : FieldV Try.prog 114 3 27 3 := fieldV_of Try.underlying114 (by kernel_rfl)
instance Try.part115 : PartT Try.prog 115 (some 4) := part_agg inferInstance rfl
instance Try.bld115 : Bld Try.prog 115 [[.slice none 0 0], [.slice none 0 0], [.slice none 0 0], [.int .u32 0]] := bld_struct Try.underlying115 (z := .agg #[.slice none 0 0, .slice none 0 0, .slice none 0 0, .int .u32 0]) (fun _ => by kernel_rfl) rfl (by kernel_rfl) rfl
instance Try.fv115_0 : FieldV Try.prog 115 0 48 0 := fieldV_of Try.underlying115 (by kernel_rfl)
instance Try.fv115_1 : FieldV Try.prog 115 1 34 1 := fieldV_of Try.underlying115 (by kernel_rfl)
instance Try.fv115_2 : FieldV Try.prog 115 2 34 2 := fieldV_of Try.underlying115 (by kernel_rfl)
instance Try.fv115_3 : FieldV Try.prog 115 3 27 3 := fieldV_of Try.underlying115 (by kernel_rfl)
instance Try.part128 : PartT Try.prog 128 none := part_scalar inferInstance
instance Try.part131 : PartT Try.prog 131 (some 11) := part_agg inferInstance rfl
instance Try.bld131 : Bld Try.prog 131 [[.int .u64 0], [.int .u64 0], [.int .u32 0], [.int .u8 0], [.int .u8 0], [.int .u8 0], [.int .u8 0], [.nilFunc], [.pointer none], [.int .i32 0], [.int .i32 0]] := bld_struct Try.underlying131 (z := .agg #[.int .u64 0, .int .u64 0, .int .u32 0, .int .u8 0, .int .u8 0, .int .u8 0, .int .u8 0, .nilFunc, .pointer none, .int .i32 0, .int .i32 0]) (fun _ => by kernel_rfl) rfl (by kernel_rfl) rfl
instance Try.fv131_0 : FieldV Try.prog 131 0 12 0 := fieldV_of Try.underlying131 (by kernel_rfl)
instance Try.fv131_1 : FieldV Try.prog 131 1 12 1 := fieldV_of Try.underlying131 (by kernel_rfl)
instance Try.fv131_2 : FieldV Try.prog 131 2 27 2 := fieldV_of Try.underlying131 (by kernel_rfl)
instance Try.fv131_3 : FieldV Try.prog 131 3 125 3 := fieldV_of Try.underlying131 (by kernel_rfl)
instance Try.fv131_4 : FieldV Try.prog 131 4 5 4 := fieldV_of Try.underlying131 (by kernel_rfl)
instance Try.fv131_5 : FieldV Try.prog 131 5 5 5 := fieldV_of Try.underlying131 (by kernel_rfl)
instance Try.fv131_6 : FieldV Try.prog 131 6 126 6 := fieldV_of Try.underlying131 (by kernel_rfl)
instance Try.fv131_7 : FieldV Try.prog 131 7 127 7 := fieldV_of Try.underlying131 (by kernel_rfl)
instance Try.fv131_8 : FieldV Try.prog 131 8 128 8 := fieldV_of Try.underlying131 (by kernel_rfl)
instance Try.fv131_9 : FieldV Try.prog 131 9 129 9 := fieldV_of Try.underlying131 (by kernel_rfl)
instance Try.fv131_10 : FieldV Try.prog 131 10 130 10 := fieldV_of Try.underlying131 (by kernel_rfl)
instance Try.ent3 : Enters Try.prog 3 := enters_of Try.func3 rfl (by kernel_rfl)
instance Try.ent4 : Enters Try.prog 4 := enters_of Try.func4 rfl (by kernel_rfl)
instance Try.ent5 : Enters Try.prog 5 := enters_of Try.func5 rfl (by kernel_rfl)
instance Try.ent6 : Enters Try.prog 6 := enters_of Try.func6 rfl (by kernel_rfl)
instance Try.ent7 : Enters Try.prog 7 := enters_of Try.func7 rfl (by kernel_rfl)
instance Try.ent8 : Enters Try.prog 8 := enters_of Try.func8 rfl (by kernel_rfl)
instance Try.ent9 : Enters Try.prog 9 := enters_of Try.func9 rfl (by kernel_rfl)
instance Try.ent10 : Enters Try.prog 10 := enters_of Try.func10 rfl (by kernel_rfl)
instance Try.ent11 : Enters Try.prog 11 := enters_of Try.func11 rfl (by kernel_rfl)
instance Try.ent12 : Enters Try.prog 12 := enters_of Try.func12 rfl (by kernel_rfl)
instance Try.ent13 : Enters Try.prog 13 := enters_of Try.func13 rfl (by kernel_rfl)
instance Try.ent14 : Enters Try.prog 14 := enters_of Try.func14 rfl (by kernel_rfl)
instance Try.ent15 : Enters Try.prog 15 := enters_of Try.func15 rfl (by kernel_rfl)
instance Try.ent16 : Enters Try.prog 16 := enters_of Try.func16 rfl (by kernel_rfl)
instance Try.ent17 : Enters Try.prog 17 := enters_of Try.func17 rfl (by kernel_rfl)
instance Try.ent18 : Enters Try.prog 18 := enters_of Try.func18 rfl (by kernel_rfl)
instance Try.ent19 : Enters Try.prog 19 := enters_of Try.func19 rfl (by kernel_rfl)
instance Try.ent20 : Enters Try.prog 20 := enters_of Try.func20 rfl (by kernel_rfl)
instance Try.ent21 : Enters Try.prog 21 := enters_of Try.func21 rfl (by kernel_rfl)
instance Try.ent22 : Enters Try.prog 22 := enters_of Try.func22 rfl (by kernel_rfl)
instance Try.ent23 : Enters Try.prog 23 := enters_of Try.func23 rfl (by kernel_rfl)
instance Try.ent24 : Enters Try.prog 24 := enters_of Try.func24 rfl (by kernel_rfl)
instance Try.ent25 : Enters Try.prog 25 := enters_of Try.func25 rfl (by kernel_rfl)
instance Try.ent26 : Enters Try.prog 26 := enters_of Try.func26 rfl (by kernel_rfl)
instance Try.ent27 : Enters Try.prog 27 := enters_of Try.func27 rfl (by kernel_rfl)
instance Try.ent28 : Enters Try.prog 28 := enters_of Try.func28 rfl (by kernel_rfl)
instance Try.ent29 : Enters Try.prog 29 := enters_of Try.func29 rfl (by kernel_rfl)
instance Try.ent30 : Enters Try.prog 30 := enters_of Try.func30 rfl (by kernel_rfl)
instance Try.ent31 : Enters Try.prog 31 := enters_of Try.func31 rfl (by kernel_rfl)
instance Try.ent32 : Enters Try.prog 32 := enters_of Try.func32 rfl (by kernel_rfl)
instance Try.ent33 : Enters Try.prog 33 := enters_of Try.func33 rfl (by kernel_rfl)
instance Try.ent34 : Enters Try.prog 34 := enters_of Try.func34 rfl (by kernel_rfl)
instance Try.ent35 : Enters Try.prog 35 := enters_of Try.func35 rfl (by kernel_rfl)
instance Try.ent36 : Enters Try.prog 36 := enters_of Try.func36 rfl (by kernel_rfl)
instance Try.ent37 : Enters Try.prog 37 := enters_of Try.func37 rfl (by kernel_rfl)
instance Try.ent38 : Enters Try.prog 38 := enters_of Try.func38 rfl (by kernel_rfl)
instance Try.ent39 : Enters Try.prog 39 := enters_of Try.func39 rfl (by kernel_rfl)
instance Try.ent40 : Enters Try.prog 40 := enters_of Try.func40 rfl (by kernel_rfl)
instance Try.ent41 : Enters Try.prog 41 := enters_of Try.func41 rfl (by kernel_rfl)
instance Try.ent42 : Enters Try.prog 42 := enters_of Try.func42 rfl (by kernel_rfl)
instance Try.ent43 : Enters Try.prog 43 := enters_of Try.func43 rfl (by kernel_rfl)
instance Try.ent44 : Enters Try.prog 44 := enters_of Try.func44 rfl (by kernel_rfl)
instance Try.ent45 : Enters Try.prog 45 := enters_of Try.func45 rfl (by kernel_rfl)
instance Try.ent46 : Enters Try.prog 46 := enters_of Try.func46 rfl (by kernel_rfl)
instance Try.ent47 : Enters Try.prog 47 := enters_of Try.func47 rfl (by kernel_rfl)
instance Try.ent48 : Enters Try.prog 48 := enters_of Try.func48 rfl (by kernel_rfl)
instance Try.ent49 : Enters Try.prog 49 := enters_of Try.func49 rfl (by kernel_rfl)
instance Try.ent50 : Enters Try.prog 50 := enters_of Try.func50 rfl (by kernel_rfl)
instance Try.ent51 : Enters Try.prog 51 := enters_of Try.func51 rfl (by kernel_rfl)
instance Try.ent52 : Enters Try.prog 52 := enters_of Try.func52 rfl (by kernel_rfl)
instance Try.ent53 : Enters Try.prog 53 := enters_of Try.func53 rfl (by kernel_rfl)
instance Try.ent54 : Enters Try.prog 54 := enters_of Try.func54 rfl (by kernel_rfl)
instance Try.ent55 : Enters Try.prog 55 := enters_of Try.func55 rfl (by kernel_rfl)
instance Try.ent56 : Enters Try.prog 56 := enters_of Try.func56 rfl (by kernel_rfl)
instance Try.ent57 : Enters Try.prog 57 := enters_of Try.func57 rfl (by kernel_rfl)
instance Try.ent58 : Enters Try.prog 58 := enters_of Try.func58 rfl (by kernel_rfl)
instance Try.ent59 : Enters Try.prog 59 := enters_of Try.func59 rfl (by kernel_rfl)
instance Try.ent60 : Enters Try.prog 60 := enters_of Try.func60 rfl (by kernel_rfl)
instance Try.ent61 : Enters Try.prog 61 := enters_of Try.func61 rfl (by kernel_rfl)
instance Try.ent62 : Enters Try.prog 62 := enters_of Try.func62 rfl (by kernel_rfl)
instance Try.ent63 : Enters Try.prog 63 := enters_of Try.func63 rfl (by kernel_rfl)
instance Try.ent64 : Enters Try.prog 64 := enters_of Try.func64 rfl (by kernel_rfl)
instance Try.ent65 : Enters Try.prog 65 := enters_of Try.func65 rfl (by kernel_rfl)
instance Try.ent66 : Enters Try.prog 66 := enters_of Try.func66 rfl (by kernel_rfl)
instance Try.ent67 : Enters Try.prog 67 := enters_of Try.func67 rfl (by kernel_rfl)
instance Try.ent68 : Enters Try.prog 68 := enters_of Try.func68 rfl (by kernel_rfl)
instance Try.ent69 : Enters Try.prog 69 := enters_of Try.func69 rfl (by kernel_rfl)
instance Try.ent70 : Enters Try.prog 70 := enters_of Try.func70 rfl (by kernel_rfl)
instance Try.ent71 : Enters Try.prog 71 := enters_of Try.func71 rfl (by kernel_rfl)
instance Try.ent72 : Enters Try.prog 72 := enters_of Try.func72 rfl (by kernel_rfl)
instance Try.ent73 : Enters Try.prog 73 := enters_of Try.func73 rfl (by kernel_rfl)
instance Try.ent74 : Enters Try.prog 74 := enters_of Try.func74 rfl (by kernel_rfl)
instance Try.ent75 : Enters Try.prog 75 := enters_of Try.func75 rfl (by kernel_rfl)
instance Try.ent76 : Enters Try.prog 76 := enters_of Try.func76 rfl (by kernel_rfl)
instance Try.ent77 : Enters Try.prog 77 := enters_of Try.func77 rfl (by kernel_rfl)
instance Try.ent78 : Enters Try.prog 78 := enters_of Try.func78 rfl (by kernel_rfl)
instance Try.ent79 : Enters Try.prog 79 := enters_of Try.func79 rfl (by kernel_rfl)
instance Try.ent80 : Enters Try.prog 80 := enters_of Try.func80 rfl (by kernel_rfl)
instance Try.ent81 : Enters Try.prog 81 := enters_of Try.func81 rfl (by kernel_rfl)
instance Try.ent82 : Enters Try.prog 82 := enters_of Try.func82 rfl (by kernel_rfl)
instance Try.ent83 : Enters Try.prog 83 := enters_of Try.func83 rfl (by kernel_rfl)
instance Try.ent84 : Enters Try.prog 84 := enters_of Try.func84 rfl (by kernel_rfl)
instance Try.ent85 : Enters Try.prog 85 := enters_of Try.func85 rfl (by kernel_rfl)
instance Try.ent86 : Enters Try.prog 86 := enters_of Try.func86 rfl (by kernel_rfl)
end Go.Proofs
