/-
  Facts on the types and functions of the translation that the walks use: sizes, places of fields, zero values; that a call enters the function. Written by a program (wip/gen.py).
-/
import Derived.Test.YtgafapifpoinlaaVc
import Derived.Test.YtgafapifpoinlaaChecked
namespace Go.Proofs
open Go.Vc
theorem Try.follows : Try.prog.follows .mixedOrders = true := by kernel_rfl
instance Try.uty2 : UTy Try.prog 2 (.int .i64) := ⟨Try.underlying2⟩
instance Try.sca2 : Scalar Try.prog 2 := scalar_of Try.underlying2 rfl (by kernel_rfl)
instance Try.zero2 : Zero Try.prog 2 [.int .i64 0] := ⟨.int .i64 0, fun _ => by kernel_rfl, rfl⟩
instance Try.uty3 : UTy Try.prog 3 (.int .i64) := ⟨Try.underlying3⟩
instance Try.sca3 : Scalar Try.prog 3 := scalar_of Try.underlying3 rfl (by kernel_rfl)
instance Try.zero3 : Zero Try.prog 3 [.int .i64 0] := ⟨.int .i64 0, fun _ => by kernel_rfl, rfl⟩
instance Try.uty4 : UTy Try.prog 4 .bool := ⟨Try.underlying4⟩
instance Try.sca4 : Scalar Try.prog 4 := scalar_of Try.underlying4 rfl (by kernel_rfl)
instance Try.zero4 : Zero Try.prog 4 [.bool false] := ⟨.bool false, fun _ => by kernel_rfl, rfl⟩
instance Try.uty5 : UTy Try.prog 5 (.int .u8) := ⟨Try.underlying5⟩
instance Try.sca5 : Scalar Try.prog 5 := scalar_of Try.underlying5 rfl (by kernel_rfl)
instance Try.zero5 : Zero Try.prog 5 [.int .u8 0] := ⟨.int .u8 0, fun _ => by kernel_rfl, rfl⟩
instance Try.uty9 : UTy Try.prog 9 .string := ⟨Try.underlying9⟩
instance Try.sca9 : Scalar Try.prog 9 := scalar_of Try.underlying9 rfl (by kernel_rfl)
instance Try.zero9 : Zero Try.prog 9 [.string .empty] := ⟨.string .empty, fun _ => by kernel_rfl, rfl⟩
instance Try.uty12 : UTy Try.prog 12 (.int .u64) := ⟨Try.underlying12⟩
instance Try.sca12 : Scalar Try.prog 12 := scalar_of Try.underlying12 rfl (by kernel_rfl)
instance Try.zero12 : Zero Try.prog 12 [.int .u64 0] := ⟨.int .u64 0, fun _ => by kernel_rfl, rfl⟩
instance Try.uty15 : UTy Try.prog 15 (.pointer 133) := ⟨Try.underlying15⟩
instance Try.sca15 : Scalar Try.prog 15 := scalar_of Try.underlying15 rfl (by kernel_rfl)
instance Try.zero15 : Zero Try.prog 15 [.pointer none] := ⟨.pointer none, fun _ => by kernel_rfl, rfl⟩
instance Try.uty16 : UTy Try.prog 16 (.pointer 136) := ⟨Try.underlying16⟩
instance Try.sca16 : Scalar Try.prog 16 := scalar_of Try.underlying16 rfl (by kernel_rfl)
instance Try.zero16 : Zero Try.prog 16 [.pointer none] := ⟨.pointer none, fun _ => by kernel_rfl, rfl⟩
instance Try.uty17 : UTy Try.prog 17 (.pointer 144) := ⟨Try.underlying17⟩
instance Try.sca17 : Scalar Try.prog 17 := scalar_of Try.underlying17 rfl (by kernel_rfl)
instance Try.zero17 : Zero Try.prog 17 [.pointer none] := ⟨.pointer none, fun _ => by kernel_rfl, rfl⟩
instance Try.uty21 : UTy Try.prog 21 (.int .i32) := ⟨Try.underlying21⟩
instance Try.sca21 : Scalar Try.prog 21 := scalar_of Try.underlying21 rfl (by kernel_rfl)
instance Try.zero21 : Zero Try.prog 21 [.int .i32 0] := ⟨.int .i32 0, fun _ => by kernel_rfl, rfl⟩
instance Try.uty22 : UTy Try.prog 22 (.slice 35) := ⟨Try.underlying22⟩
instance Try.sca22 : Scalar Try.prog 22 := scalar_of Try.underlying22 rfl (by kernel_rfl)
theorem Try.erow22 : (Try.prog.info? 35).map (fun i => (i.zero, i.size, i.bytes)) = some (some (.agg #[.int .i64 0, .int .i64 0]), 2, 16) := by kernel_rfl
instance Try.elem22 : Elem Try.prog 22 35 2 16 := elem_of Try.underlying22 Try.erow22 rfl
instance Try.zero22 : Zero Try.prog 22 [.slice none 0 0] := ⟨.slice none 0 0, fun _ => by kernel_rfl, rfl⟩
instance Try.uty23 : UTy Try.prog 23 (.int .u64) := ⟨Try.underlying23⟩
instance Try.sca23 : Scalar Try.prog 23 := scalar_of Try.underlying23 rfl (by kernel_rfl)
instance Try.zero23 : Zero Try.prog 23 [.int .u64 0] := ⟨.int .u64 0, fun _ => by kernel_rfl, rfl⟩
instance Try.uty25 : UTy Try.prog 25 (.pointer 93) := ⟨Try.underlying25⟩
instance Try.sca25 : Scalar Try.prog 25 := scalar_of Try.underlying25 rfl (by kernel_rfl)
instance Try.zero25 : Zero Try.prog 25 [.pointer none] := ⟨.pointer none, fun _ => by kernel_rfl, rfl⟩
instance Try.uty26 : UTy Try.prog 26 (.int .u32) := ⟨Try.underlying26⟩
instance Try.sca26 : Scalar Try.prog 26 := scalar_of Try.underlying26 rfl (by kernel_rfl)
instance Try.zero26 : Zero Try.prog 26 [.int .u32 0] := ⟨.int .u32 0, fun _ => by kernel_rfl, rfl⟩
instance Try.uty33 : UTy Try.prog 33 (.slice 2) := ⟨Try.underlying33⟩
instance Try.sca33 : Scalar Try.prog 33 := scalar_of Try.underlying33 rfl (by kernel_rfl)
theorem Try.erow33 : (Try.prog.info? 2).map (fun i => (i.zero, i.size, i.bytes)) = some (some (.int .i64 0), 1, 8) := by kernel_rfl
instance Try.elem33 : Elem Try.prog 33 2 1 8 := elem_of Try.underlying33 Try.erow33 rfl
instance Try.zero33 : Zero Try.prog 33 [.slice none 0 0] := ⟨.slice none 0 0, fun _ => by kernel_rfl, rfl⟩
instance Try.agg34 : Agg Try.prog 34 2 := agg_of Try.underlying34 rfl (by kernel_rfl)
instance Try.fld34_0 : FieldOff Try.prog 34 0 0 := field_of (m := 1) Try.underlying34 (by kernel_rfl) rfl
instance Try.fld34_1 : FieldOff Try.prog 34 1 1 := field_of (m := 1) Try.underlying34 (by kernel_rfl) rfl
instance Try.zero34 : Zero Try.prog 34 [.int .i64 0, .int .i64 0] := ⟨.agg #[.int .i64 0, .int .i64 0], fun _ => by kernel_rfl, rfl⟩
instance Try.agg35 : Agg Try.prog 35 2 := agg_of Try.underlying35 rfl (by kernel_rfl)
instance Try.fld35_0 : FieldOff Try.prog 35 0 0 := field_of (m := 1) Try.underlying35 (by kernel_rfl) rfl
instance Try.fld35_1 : FieldOff Try.prog 35 1 1 := field_of (m := 1) Try.underlying35 (by kernel_rfl) rfl
instance Try.zero35 : Zero Try.prog 35 [.int .i64 0, .int .i64 0] := ⟨.agg #[.int .i64 0, .int .i64 0], fun _ => by kernel_rfl, rfl⟩
instance Try.uty49 : UTy Try.prog 49 (.slice 26) := ⟨Try.underlying49⟩
instance Try.sca49 : Scalar Try.prog 49 := scalar_of Try.underlying49 rfl (by kernel_rfl)
theorem Try.erow49 : (Try.prog.info? 26).map (fun i => (i.zero, i.size, i.bytes)) = some (some (.int .u32 0), 1, 4) := by kernel_rfl
instance Try.elem49 : Elem Try.prog 49 26 1 4 := elem_of Try.underlying49 Try.erow49 rfl
instance Try.zero49 : Zero Try.prog 49 [.slice none 0 0] := ⟨.slice none 0 0, fun _ => by kernel_rfl, rfl⟩
instance Try.agg51 : Agg Try.prog 51 8 := agg_of Try.underlying51 rfl (by kernel_rfl)
instance Try.fld51_0 : FieldOff Try.prog 51 0 0 := field_of (m := 1) Try.underlying51 (by kernel_rfl) rfl
instance Try.fld51_1 : FieldOff Try.prog 51 1 1 := field_of (m := 1) Try.underlying51 (by kernel_rfl) rfl
instance Try.fld51_2 : FieldOff Try.prog 51 2 2 := field_of (m := 1) Try.underlying51 (by kernel_rfl) rfl
instance Try.fld51_3 : FieldOff Try.prog 51 3 3 := field_of (m := 1) Try.underlying51 (by kernel_rfl) rfl
instance Try.fld51_4 : FieldOff Try.prog 51 4 4 := field_of (m := 1) Try.underlying51 (by kernel_rfl) rfl
instance Try.fld51_5 : FieldOff Try.prog 51 5 5 := field_of (m := 1) Try.underlying51 (by kernel_rfl) rfl
instance Try.fld51_6 : FieldOff Try.prog 51 6 6 := field_of (m := 1) Try.underlying51 (by kernel_rfl) rfl
instance Try.fld51_7 : FieldOff Try.prog 51 7 7 := field_of (m := 1) Try.underlying51 (by kernel_rfl) rfl
instance Try.zero51 : Zero Try.prog 51 [.int .i64 0, .int .i64 0, .int .u32 0, .int .u32 0, .int .i64 0, .int .i64 0, .int .i64 0, .int .i64 0] := ⟨.agg #[.int .i64 0, .int .i64 0, .int .u32 0, .int .u32 0, .int .i64 0, .int .i64 0, .int .i64 0, .int .i64 0], fun _ => by kernel_rfl, rfl⟩
instance Try.agg52 : Agg Try.prog 52 8 := agg_of Try.underlying52 rfl (by kernel_rfl)
instance Try.fld52_0 : FieldOff Try.prog 52 0 0 := field_of (m := 1) Try.underlying52 (by kernel_rfl) rfl
instance Try.fld52_1 : FieldOff Try.prog 52 1 1 := field_of (m := 1) Try.underlying52 (by kernel_rfl) rfl
instance Try.fld52_2 : FieldOff Try.prog 52 2 2 := field_of (m := 1) Try.underlying52 (by kernel_rfl) rfl
instance Try.fld52_3 : FieldOff Try.prog 52 3 3 := field_of (m := 1) Try.underlying52 (by kernel_rfl) rfl
instance Try.fld52_4 : FieldOff Try.prog 52 4 4 := field_of (m := 1) Try.underlying52 (by kernel_rfl) rfl
instance Try.fld52_5 : FieldOff Try.prog 52 5 5 := field_of (m := 1) Try.underlying52 (by kernel_rfl) rfl
instance Try.fld52_6 : FieldOff Try.prog 52 6 6 := field_of (m := 1) Try.underlying52 (by kernel_rfl) rfl
instance Try.fld52_7 : FieldOff Try.prog 52 7 7 := field_of (m := 1) Try.underlying52 (by kernel_rfl) rfl
instance Try.zero52 : Zero Try.prog 52 [.int .i64 0, .int .i64 0, .int .u32 0, .int .u32 0, .int .i64 0, .int .i64 0, .int .i64 0, .int .i64 0] := ⟨.agg #[.int .i64 0, .int .i64 0, .int .u32 0, .int .u32 0, .int .i64 0, .int .i64 0, .int .i64 0, .int .i64 0], fun _ => by kernel_rfl, rfl⟩
instance Try.uty55 : UTy Try.prog 55 (.slice 101) := ⟨Try.underlying55⟩
instance Try.sca55 : Scalar Try.prog 55 := scalar_of Try.underlying55 rfl (by kernel_rfl)
theorem Try.erow55 : (Try.prog.info? 101).map (fun i => (i.zero, i.size, i.bytes)) = some (some (.agg #[.int .i64 0, .int .i64 0, .int .i64 0]), 3, 24) := by kernel_rfl
instance Try.elem55 : Elem Try.prog 55 101 3 24 := elem_of Try.underlying55 Try.erow55 rfl
instance Try.zero55 : Zero Try.prog 55 [.slice none 0 0] := ⟨.slice none 0 0, fun _ => by kernel_rfl, rfl⟩
instance Try.uty58 : UTy Try.prog 58 (.slice 70) := ⟨Try.underlying58⟩
instance Try.sca58 : Scalar Try.prog 58 := scalar_of Try.underlying58 rfl (by kernel_rfl)
theorem Try.erow58 : (Try.prog.info? 70).map (fun i => (i.zero, i.size, i.bytes)) = some (some (.agg #[.bool false, .int .i64 0, .int .u32 0, .int .i64 0, .int .i64 0, .int .u32 0, .int .u32 0, .int .i64 0, .int .i64 0, .int .i64 0, .int .i64 0]), 11, 80) := by kernel_rfl
instance Try.elem58 : Elem Try.prog 58 70 11 80 := elem_of Try.underlying58 Try.erow58 rfl
instance Try.zero58 : Zero Try.prog 58 [.slice none 0 0] := ⟨.slice none 0 0, fun _ => by kernel_rfl, rfl⟩
instance Try.agg59 : Agg Try.prog 59 2 := agg_of Try.underlying59 rfl (by kernel_rfl)
instance Try.fld59_0 : FieldOff Try.prog 59 0 0 := field_of (m := 1) Try.underlying59 (by kernel_rfl) rfl
instance Try.fld59_1 : FieldOff Try.prog 59 1 1 := field_of (m := 1) Try.underlying59 (by kernel_rfl) rfl
instance Try.zero59 : Zero Try.prog 59 [.slice none 0 0, .slice none 0 0] := ⟨.agg #[.slice none 0 0, .slice none 0 0], fun _ => by kernel_rfl, rfl⟩
instance Try.agg60 : Agg Try.prog 60 2 := agg_of Try.underlying60 rfl (by kernel_rfl)
instance Try.fld60_0 : FieldOff Try.prog 60 0 0 := field_of (m := 1) Try.underlying60 (by kernel_rfl) rfl
instance Try.fld60_1 : FieldOff Try.prog 60 1 1 := field_of (m := 1) Try.underlying60 (by kernel_rfl) rfl
instance Try.zero60 : Zero Try.prog 60 [.slice none 0 0, .slice none 0 0] := ⟨.agg #[.slice none 0 0, .slice none 0 0], fun _ => by kernel_rfl, rfl⟩
instance Try.uty62 : UTy Try.prog 62 (.int .i64) := ⟨Try.underlying62⟩
instance Try.sca62 : Scalar Try.prog 62 := scalar_of Try.underlying62 rfl (by kernel_rfl)
instance Try.zero62 : Zero Try.prog 62 [.int .i64 0] := ⟨.int .i64 0, fun _ => by kernel_rfl, rfl⟩
instance Try.agg64 : Agg Try.prog 64 2 := agg_of Try.underlying64 rfl (by kernel_rfl)
instance Try.fld64_0 : FieldOff Try.prog 64 0 0 := field_of (m := 1) Try.underlying64 (by kernel_rfl) rfl
instance Try.fld64_1 : FieldOff Try.prog 64 1 1 := field_of (m := 1) Try.underlying64 (by kernel_rfl) rfl
instance Try.zero64 : Zero Try.prog 64 [.int .i64 0, .int .i64 0] := ⟨.agg #[.int .i64 0, .int .i64 0], fun _ => by kernel_rfl, rfl⟩
instance Try.agg65 : Agg Try.prog 65 2 := agg_of Try.underlying65 rfl (by kernel_rfl)
instance Try.fld65_0 : FieldOff Try.prog 65 0 0 := field_of (m := 1) Try.underlying65 (by kernel_rfl) rfl
instance Try.fld65_1 : FieldOff Try.prog 65 1 1 := field_of (m := 1) Try.underlying65 (by kernel_rfl) rfl
instance Try.zero65 : Zero Try.prog 65 [.int .i64 0, .int .i64 0] := ⟨.agg #[.int .i64 0, .int .i64 0], fun _ => by kernel_rfl, rfl⟩
instance Try.agg69 : Agg Try.prog 69 11 := agg_of Try.underlying69 rfl (by kernel_rfl)
instance Try.fld69_0 : FieldOff Try.prog 69 0 0 := field_of (m := 1) Try.underlying69 (by kernel_rfl) rfl
instance Try.fld69_1 : FieldOff Try.prog 69 1 1 := field_of (m := 1) Try.underlying69 (by kernel_rfl) rfl
instance Try.fld69_2 : FieldOff Try.prog 69 2 2 := field_of (m := 1) Try.underlying69 (by kernel_rfl) rfl
instance Try.fld69_3 : FieldOff Try.prog 69 3 3 := field_of (m := 8) Try.underlying69 (by kernel_rfl) rfl
instance Try.zero69 : Zero Try.prog 69 [.bool false, .int .i64 0, .int .u32 0, .int .i64 0, .int .i64 0, .int .u32 0, .int .u32 0, .int .i64 0, .int .i64 0, .int .i64 0, .int .i64 0] := ⟨.agg #[.bool false, .int .i64 0, .int .u32 0, .int .i64 0, .int .i64 0, .int .u32 0, .int .u32 0, .int .i64 0, .int .i64 0, .int .i64 0, .int .i64 0], fun _ => by kernel_rfl, rfl⟩
instance Try.agg70 : Agg Try.prog 70 11 := agg_of Try.underlying70 rfl (by kernel_rfl)
instance Try.fld70_0 : FieldOff Try.prog 70 0 0 := field_of (m := 1) Try.underlying70 (by kernel_rfl) rfl
instance Try.fld70_1 : FieldOff Try.prog 70 1 1 := field_of (m := 1) Try.underlying70 (by kernel_rfl) rfl
instance Try.fld70_2 : FieldOff Try.prog 70 2 2 := field_of (m := 1) Try.underlying70 (by kernel_rfl) rfl
instance Try.fld70_3 : FieldOff Try.prog 70 3 3 := field_of (m := 8) Try.underlying70 (by kernel_rfl) rfl
instance Try.zero70 : Zero Try.prog 70 [.bool false, .int .i64 0, .int .u32 0, .int .i64 0, .int .i64 0, .int .u32 0, .int .u32 0, .int .i64 0, .int .i64 0, .int .i64 0, .int .i64 0] := ⟨.agg #[.bool false, .int .i64 0, .int .u32 0, .int .i64 0, .int .i64 0, .int .u32 0, .int .u32 0, .int .i64 0, .int .i64 0, .int .i64 0, .int .i64 0], fun _ => by kernel_rfl, rfl⟩
instance Try.uty89 : UTy Try.prog 89 (.pointer 126) := ⟨Try.underlying89⟩
instance Try.sca89 : Scalar Try.prog 89 := scalar_of Try.underlying89 rfl (by kernel_rfl)
instance Try.zero89 : Zero Try.prog 89 [.pointer none] := ⟨.pointer none, fun _ => by kernel_rfl, rfl⟩
instance Try.uty90 : UTy Try.prog 90 (.slice 52) := ⟨Try.underlying90⟩
instance Try.sca90 : Scalar Try.prog 90 := scalar_of Try.underlying90 rfl (by kernel_rfl)
theorem Try.erow90 : (Try.prog.info? 52).map (fun i => (i.zero, i.size, i.bytes)) = some (some (.agg #[.int .i64 0, .int .i64 0, .int .u32 0, .int .u32 0, .int .i64 0, .int .i64 0, .int .i64 0, .int .i64 0]), 8, 56) := by kernel_rfl
instance Try.elem90 : Elem Try.prog 90 52 8 56 := elem_of Try.underlying90 Try.erow90 rfl
instance Try.zero90 : Zero Try.prog 90 [.slice none 0 0] := ⟨.slice none 0 0, fun _ => by kernel_rfl, rfl⟩
instance Try.uty91 : UTy Try.prog 91 (.slice 3) := ⟨Try.underlying91⟩
instance Try.sca91 : Scalar Try.prog 91 := scalar_of Try.underlying91 rfl (by kernel_rfl)
theorem Try.erow91 : (Try.prog.info? 3).map (fun i => (i.zero, i.size, i.bytes)) = some (some (.int .i64 0), 1, 8) := by kernel_rfl
instance Try.elem91 : Elem Try.prog 91 3 1 8 := elem_of Try.underlying91 Try.erow91 rfl
instance Try.zero91 : Zero Try.prog 91 [.slice none 0 0] := ⟨.slice none 0 0, fun _ => by kernel_rfl, rfl⟩
instance Try.agg92 : Agg Try.prog 92 4 := agg_of Try.underlying92 rfl (by kernel_rfl)
instance Try.fld92_0 : FieldOff Try.prog 92 0 0 := field_of (m := 1) Try.underlying92 (by kernel_rfl) rfl
instance Try.fld92_1 : FieldOff Try.prog 92 1 1 := field_of (m := 1) Try.underlying92 (by kernel_rfl) rfl
instance Try.fld92_2 : FieldOff Try.prog 92 2 2 := field_of (m := 1) Try.underlying92 (by kernel_rfl) rfl
instance Try.fld92_3 : FieldOff Try.prog 92 3 3 := field_of (m := 1) Try.underlying92 (by kernel_rfl) rfl
instance Try.zero92 : Zero Try.prog 92 [.pointer none, .slice none 0 0, .slice none 0 0, .int .u64 0] := ⟨.agg #[.pointer none, .slice none 0 0, .slice none 0 0, .int .u64 0], fun _ => by kernel_rfl, rfl⟩
instance Try.agg93 : Agg Try.prog 93 4 := agg_of Try.underlying93 rfl (by kernel_rfl)
instance Try.fld93_0 : FieldOff Try.prog 93 0 0 := field_of (m := 1) Try.underlying93 (by kernel_rfl) rfl
instance Try.fld93_1 : FieldOff Try.prog 93 1 1 := field_of (m := 1) Try.underlying93 (by kernel_rfl) rfl
instance Try.fld93_2 : FieldOff Try.prog 93 2 2 := field_of (m := 1) Try.underlying93 (by kernel_rfl) rfl
instance Try.fld93_3 : FieldOff Try.prog 93 3 3 := field_of (m := 1) Try.underlying93 (by kernel_rfl) rfl
instance Try.zero93 : Zero Try.prog 93 [.pointer none, .slice none 0 0, .slice none 0 0, .int .u64 0] := ⟨.agg #[.pointer none, .slice none 0 0, .slice none 0 0, .int .u64 0], fun _ => by kernel_rfl, rfl⟩
instance Try.agg100 : Agg Try.prog 100 3 := agg_of Try.underlying100 rfl (by kernel_rfl)
instance Try.fld100_0 : FieldOff Try.prog 100 0 0 := field_of (m := 1) Try.underlying100 (by kernel_rfl) rfl
instance Try.fld100_1 : FieldOff Try.prog 100 1 1 := field_of (m := 1) Try.underlying100 (by kernel_rfl) rfl
instance Try.fld100_2 : FieldOff Try.prog 100 2 2 := field_of (m := 1) Try.underlying100 (by kernel_rfl) rfl
instance Try.zero100 : Zero Try.prog 100 [.int .i64 0, .int .i64 0, .int .i64 0] := ⟨.agg #[.int .i64 0, .int .i64 0, .int .i64 0], fun _ => by kernel_rfl, rfl⟩
instance Try.agg101 : Agg Try.prog 101 3 := agg_of Try.underlying101 rfl (by kernel_rfl)
instance Try.fld101_0 : FieldOff Try.prog 101 0 0 := field_of (m := 1) Try.underlying101 (by kernel_rfl) rfl
instance Try.fld101_1 : FieldOff Try.prog 101 1 1 := field_of (m := 1) Try.underlying101 (by kernel_rfl) rfl
instance Try.fld101_2 : FieldOff Try.prog 101 2 2 := field_of (m := 1) Try.underlying101 (by kernel_rfl) rfl
instance Try.zero101 : Zero Try.prog 101 [.int .i64 0, .int .i64 0, .int .i64 0] := ⟨.agg #[.int .i64 0, .int .i64 0, .int .i64 0], fun _ => by kernel_rfl, rfl⟩
instance Try.uty107 : UTy Try.prog 107 (.pointer 109) := ⟨Try.underlying107⟩
instance Try.sca107 : Scalar Try.prog 107 := scalar_of Try.underlying107 rfl (by kernel_rfl)
instance Try.zero107 : Zero Try.prog 107 [.pointer none] := ⟨.pointer none, fun _ => by kernel_rfl, rfl⟩
instance Try.agg108 : Agg Try.prog 108 5 := agg_of Try.underlying108 rfl (by kernel_rfl)
instance Try.fld108_0 : FieldOff Try.prog 108 0 0 := field_of (m := 2) Try.underlying108 (by kernel_rfl) rfl
instance Try.fld108_1 : FieldOff Try.prog 108 1 2 := field_of (m := 1) Try.underlying108 (by kernel_rfl) rfl
instance Try.fld108_2 : FieldOff Try.prog 108 2 3 := field_of (m := 1) Try.underlying108 (by kernel_rfl) rfl
instance Try.fld108_3 : FieldOff Try.prog 108 3 4 := field_of (m := 1) Try.underlying108 (by kernel_rfl) rfl
instance Try.zero108 : Zero Try.prog 108 [.slice none 0 0, .slice none 0 0, .int .i64 0, .bool false, .int .i64 0] := ⟨.agg #[.slice none 0 0, .slice none 0 0, .int .i64 0, .bool false, .int .i64 0], fun _ => by kernel_rfl, rfl⟩
instance Try.agg109 : Agg Try.prog 109 5 := agg_of Try.underlying109 rfl (by kernel_rfl)
instance Try.fld109_0 : FieldOff Try.prog 109 0 0 := field_of (m := 2) Try.underlying109 (by kernel_rfl) rfl
instance Try.fld109_1 : FieldOff Try.prog 109 1 2 := field_of (m := 1) Try.underlying109 (by kernel_rfl) rfl
instance Try.fld109_2 : FieldOff Try.prog 109 2 3 := field_of (m := 1) Try.underlying109 (by kernel_rfl) rfl
instance Try.fld109_3 : FieldOff Try.prog 109 3 4 := field_of (m := 1) Try.underlying109 (by kernel_rfl) rfl
instance Try.zero109 : Zero Try.prog 109 [.slice none 0 0, .slice none 0 0, .int .i64 0, .bool false, .int .i64 0] := ⟨.agg #[.slice none 0 0, .slice none 0 0, .int .i64 0, .bool false, .int .i64 0], fun _ => by kernel_rfl, rfl⟩
instance Try.uty116 : UTy Try.prog 116 (.array 81 3) := ⟨Try.underlying116⟩
instance Try.agg116 : Agg Try.prog 116 81 := agg_of Try.underlying116 rfl (by kernel_rfl)
instance Try.uty124 : UTy Try.prog 124 (.slice 4) := ⟨Try.underlying124⟩
instance Try.sca124 : Scalar Try.prog 124 := scalar_of Try.underlying124 rfl (by kernel_rfl)
theorem Try.erow124 : (Try.prog.info? 4).map (fun i => (i.zero, i.size, i.bytes)) = some (some (.bool false), 1, 1) := by kernel_rfl
instance Try.elem124 : Elem Try.prog 124 4 1 1 := elem_of Try.underlying124 Try.erow124 rfl
instance Try.zero124 : Zero Try.prog 124 [.slice none 0 0] := ⟨.slice none 0 0, fun _ => by kernel_rfl, rfl⟩
instance Try.agg125 : Agg Try.prog 125 4 := agg_of Try.underlying125 rfl (by kernel_rfl)
instance Try.fld125_0 : FieldOff Try.prog 125 0 0 := field_of (m := 1) Try.underlying125 (by kernel_rfl) rfl
instance Try.fld125_1 : FieldOff Try.prog 125 1 1 := field_of (m := 1) Try.underlying125 (by kernel_rfl) rfl
instance Try.fld125_2 : FieldOff Try.prog 125 2 2 := field_of (m := 1) Try.underlying125 (by kernel_rfl) rfl
instance Try.fld125_3 : FieldOff Try.prog 125 3 3 := field_of (m := 1) Try.underlying125 (by kernel_rfl) rfl
instance Try.zero125 : Zero Try.prog 125 [.slice none 0 0, .slice none 0 0, .slice none 0 0, .int .u32 0] := ⟨.agg #[.slice none 0 0, .slice none 0 0, .slice none 0 0, .int .u32 0], fun _ => by kernel_rfl, rfl⟩
instance Try.agg126 : Agg Try.prog 126 4 := agg_of Try.underlying126 rfl (by kernel_rfl)
instance Try.fld126_0 : FieldOff Try.prog 126 0 0 := field_of (m := 1) Try.underlying126 (by kernel_rfl) rfl
instance Try.fld126_1 : FieldOff Try.prog 126 1 1 := field_of (m := 1) Try.underlying126 (by kernel_rfl) rfl
instance Try.fld126_2 : FieldOff Try.prog 126 2 2 := field_of (m := 1) Try.underlying126 (by kernel_rfl) rfl
instance Try.fld126_3 : FieldOff Try.prog 126 3 3 := field_of (m := 1) Try.underlying126 (by kernel_rfl) rfl
instance Try.zero126 : Zero Try.prog 126 [.slice none 0 0, .slice none 0 0, .slice none 0 0, .int .u32 0] := ⟨.agg #[.slice none 0 0, .slice none 0 0, .slice none 0 0, .int .u32 0], fun _ => by kernel_rfl, rfl⟩
instance Try.uty127 : UTy Try.prog 127 (.array 2 26) := ⟨Try.underlying127⟩
instance Try.agg127 : Agg Try.prog 127 2 := agg_of Try.underlying127 rfl (by kernel_rfl)
instance Try.zero127 : Zero Try.prog 127 [.int .u32 0, .int .u32 0] := ⟨.agg #[.int .u32 0, .int .u32 0], fun _ => by kernel_rfl, rfl⟩
instance Try.uty128 : UTy Try.prog 128 (.pointer 52) := ⟨Try.underlying128⟩
instance Try.sca128 : Scalar Try.prog 128 := scalar_of Try.underlying128 rfl (by kernel_rfl)
instance Try.zero128 : Zero Try.prog 128 [.pointer none] := ⟨.pointer none, fun _ => by kernel_rfl, rfl⟩
instance Try.uty134 : UTy Try.prog 134 (.array 0 16) := ⟨Try.underlying134⟩
instance Try.zero134 : Zero Try.prog 134 [] := ⟨.agg #[], fun _ => by kernel_rfl, rfl⟩
instance Try.uty140 : UTy Try.prog 140 (.pointer 5) := ⟨Try.underlying140⟩
instance Try.sca140 : Scalar Try.prog 140 := scalar_of Try.underlying140 rfl (by kernel_rfl)
instance Try.zero140 : Zero Try.prog 140 [.pointer none] := ⟨.pointer none, fun _ => by kernel_rfl, rfl⟩
instance Try.agg143 : Agg Try.prog 143 11 := agg_of Try.underlying143 rfl (by kernel_rfl)
instance Try.fld143_0 : FieldOff Try.prog 143 0 0 := field_of (m := 1) Try.underlying143 (by kernel_rfl) rfl
instance Try.fld143_1 : FieldOff Try.prog 143 1 1 := field_of (m := 1) Try.underlying143 (by kernel_rfl) rfl
instance Try.fld143_2 : FieldOff Try.prog 143 2 2 := field_of (m := 1) Try.underlying143 (by kernel_rfl) rfl
instance Try.fld143_3 : FieldOff Try.prog 143 3 3 := field_of (m := 1) Try.underlying143 (by kernel_rfl) rfl
instance Try.fld143_4 : FieldOff Try.prog 143 4 4 := field_of (m := 1) Try.underlying143 (by kernel_rfl) rfl
instance Try.fld143_5 : FieldOff Try.prog 143 5 5 := field_of (m := 1) Try.underlying143 (by kernel_rfl) rfl
instance Try.fld143_6 : FieldOff Try.prog 143 6 6 := field_of (m := 1) Try.underlying143 (by kernel_rfl) rfl
instance Try.fld143_7 : FieldOff Try.prog 143 7 7 := field_of (m := 1) Try.underlying143 (by kernel_rfl) rfl
instance Try.fld143_8 : FieldOff Try.prog 143 8 8 := field_of (m := 1) Try.underlying143 (by kernel_rfl) rfl
instance Try.fld143_9 : FieldOff Try.prog 143 9 9 := field_of (m := 1) Try.underlying143 (by kernel_rfl) rfl
instance Try.fld143_10 : FieldOff Try.prog 143 10 10 := field_of (m := 1) Try.underlying143 (by kernel_rfl) rfl
instance Try.zero143 : Zero Try.prog 143 [.int .u64 0, .int .u64 0, .int .u32 0, .int .u8 0, .int .u8 0, .int .u8 0, .int .u8 0, .nilFunc, .pointer none, .int .i32 0, .int .i32 0] := ⟨.agg #[.int .u64 0, .int .u64 0, .int .u32 0, .int .u8 0, .int .u8 0, .int .u8 0, .int .u8 0, .nilFunc, .pointer none, .int .i32 0, .int .i32 0], fun _ => by kernel_rfl, rfl⟩
instance Try.part2 : PartT Try.prog 2 none := part_scalar inferInstance
instance Try.eqp2 : EqP Try.prog 2 [true] 1 := eqp_int Try.underlying2 inferInstance
instance Try.part3 : PartT Try.prog 3 none := part_scalar inferInstance
instance Try.eqp3 : EqP Try.prog 3 [true] 1 := eqp_int Try.underlying3 inferInstance
instance Try.part4 : PartT Try.prog 4 none := part_scalar inferInstance
instance Try.eqp4 : EqP Try.prog 4 [false] 1 := eqp_bool Try.underlying4 inferInstance
instance Try.part5 : PartT Try.prog 5 none := part_scalar inferInstance
instance Try.eqp5 : EqP Try.prog 5 [true] 1 := eqp_int Try.underlying5 inferInstance
instance Try.part9 : PartT Try.prog 9 none := part_scalar inferInstance
instance Try.part12 : PartT Try.prog 12 none := part_scalar inferInstance
instance Try.eqp12 : EqP Try.prog 12 [true] 1 := eqp_int Try.underlying12 inferInstance
instance Try.part15 : PartT Try.prog 15 none := part_scalar inferInstance
instance Try.part16 : PartT Try.prog 16 none := part_scalar inferInstance
instance Try.part17 : PartT Try.prog 17 none := part_scalar inferInstance
instance Try.part21 : PartT Try.prog 21 none := part_scalar inferInstance
instance Try.eqp21 : EqP Try.prog 21 [true] 1 := eqp_int Try.underlying21 inferInstance
instance Try.part22 : PartT Try.prog 22 none := part_scalar inferInstance
instance Try.part23 : PartT Try.prog 23 none := part_scalar inferInstance
instance Try.eqp23 : EqP Try.prog 23 [true] 1 := eqp_int Try.underlying23 inferInstance
instance Try.part25 : PartT Try.prog 25 none := part_scalar inferInstance
instance Try.part26 : PartT Try.prog 26 none := part_scalar inferInstance
instance Try.eqp26 : EqP Try.prog 26 [true] 1 := eqp_int Try.underlying26 inferInstance
instance Try.part33 : PartT Try.prog 33 none := part_scalar inferInstance
instance Try.part34 : PartT Try.prog 34 (some 2) := part_agg inferInstance rfl
instance Try.bld34 : Bld Try.prog 34 [[.int .i64 0], [.int .i64 0]] := bld_struct Try.underlying34 (z := .agg #[.int .i64 0, .int .i64 0]) (fun _ => by kernel_rfl) rfl (by kernel_rfl) rfl
instance Try.fv34_0 : FieldV Try.prog 34 0 2 0 := fieldV_of Try.underlying34 (by kernel_rfl)
instance Try.fv34_1 : FieldV Try.prog 34 1 2 1 := fieldV_of Try.underlying34 (by kernel_rfl)
instance Try.eqp34 : EqP Try.prog 34 [true, true] 2 := eqp_struct Try.underlying34 inferInstance rfl rfl (by kernel_rfl) ⟨by decide, rfl, [true], [true], 1, inferInstance, by decide, rfl, ⟨by decide, rfl, [true], [], 1, inferInstance, by decide, rfl, rfl⟩⟩
instance Try.eqg34 : EqG Try.prog 34 := ⟨by kernel_rfl⟩
instance Try.part35 : PartT Try.prog 35 (some 2) := part_agg inferInstance rfl
instance Try.bld35 : Bld Try.prog 35 [[.int .i64 0], [.int .i64 0]] := bld_struct Try.underlying35 (z := .agg #[.int .i64 0, .int .i64 0]) (fun _ => by kernel_rfl) rfl (by kernel_rfl) rfl
instance Try.fv35_0 : FieldV Try.prog 35 0 2 0 := fieldV_of Try.underlying35 (by kernel_rfl)
instance Try.fv35_1 : FieldV Try.prog 35 1 2 1 := fieldV_of Try.underlying35 (by kernel_rfl)
instance Try.eqp35 : EqP Try.prog 35 [true, true] 2 := eqp_struct Try.underlying35 inferInstance rfl rfl (by kernel_rfl) ⟨by decide, rfl, [true], [true], 1, inferInstance, by decide, rfl, ⟨by decide, rfl, [true], [], 1, inferInstance, by decide, rfl, rfl⟩⟩
instance Try.eqg35 : EqG Try.prog 35 := ⟨by kernel_rfl⟩
instance Try.part49 : PartT Try.prog 49 none := part_scalar inferInstance
instance Try.part51 : PartT Try.prog 51 (some 8) := part_agg inferInstance rfl
instance Try.bld51 : Bld Try.prog 51 [[.int .i64 0], [.int .i64 0], [.int .u32 0], [.int .u32 0], [.int .i64 0], [.int .i64 0], [.int .i64 0], [.int .i64 0]] := bld_struct Try.underlying51 (z := .agg #[.int .i64 0, .int .i64 0, .int .u32 0, .int .u32 0, .int .i64 0, .int .i64 0, .int .i64 0, .int .i64 0]) (fun _ => by kernel_rfl) rfl (by kernel_rfl) rfl
instance Try.fv51_0 : FieldV Try.prog 51 0 2 0 := fieldV_of Try.underlying51 (by kernel_rfl)
instance Try.fv51_1 : FieldV Try.prog 51 1 2 1 := fieldV_of Try.underlying51 (by kernel_rfl)
instance Try.fv51_2 : FieldV Try.prog 51 2 26 2 := fieldV_of Try.underlying51 (by kernel_rfl)
instance Try.fv51_3 : FieldV Try.prog 51 3 26 3 := fieldV_of Try.underlying51 (by kernel_rfl)
instance Try.fv51_4 : FieldV Try.prog 51 4 3 4 := fieldV_of Try.underlying51 (by kernel_rfl)
instance Try.fv51_5 : FieldV Try.prog 51 5 2 5 := fieldV_of Try.underlying51 (by kernel_rfl)
instance Try.fv51_6 : FieldV Try.prog 51 6 2 6 := fieldV_of Try.underlying51 (by kernel_rfl)
instance Try.fv51_7 : FieldV Try.prog 51 7 2 7 := fieldV_of Try.underlying51 (by kernel_rfl)
instance Try.eqp51 : EqP Try.prog 51 [true, true, true, true, true, true, true, true] 2 := eqp_struct Try.underlying51 inferInstance rfl rfl (by kernel_rfl) ⟨by decide, rfl, [true], [true, true, true, true, true, true, true], 1, inferInstance, by decide, rfl, ⟨by decide, rfl, [true], [true, true, true, true, true, true], 1, inferInstance, by decide, rfl, ⟨by decide, rfl, [true], [true, true, true, true, true], 1, inferInstance, by decide, rfl, ⟨by decide, rfl, [true], [true, true, true, true], 1, inferInstance, by decide, rfl, ⟨by decide, rfl, [true], [true, true, true], 1, inferInstance, by decide, rfl, ⟨by decide, rfl, [true], [true, true], 1, inferInstance, by decide, rfl, ⟨by decide, rfl, [true], [true], 1, inferInstance, by decide, rfl, ⟨by decide, rfl, [true], [], 1, inferInstance, by decide, rfl, rfl⟩⟩⟩⟩⟩⟩⟩⟩
instance Try.eqg51 : EqG Try.prog 51 := ⟨by kernel_rfl⟩
instance Try.part52 : PartT Try.prog 52 (some 8) := part_agg inferInstance rfl
instance Try.bld52 : Bld Try.prog 52 [[.int .i64 0], [.int .i64 0], [.int .u32 0], [.int .u32 0], [.int .i64 0], [.int .i64 0], [.int .i64 0], [.int .i64 0]] := bld_struct Try.underlying52 (z := .agg #[.int .i64 0, .int .i64 0, .int .u32 0, .int .u32 0, .int .i64 0, .int .i64 0, .int .i64 0, .int .i64 0]) (fun _ => by kernel_rfl) rfl (by kernel_rfl) rfl
instance Try.fv52_0 : FieldV Try.prog 52 0 2 0 := fieldV_of Try.underlying52 (by kernel_rfl)
instance Try.fv52_1 : FieldV Try.prog 52 1 2 1 := fieldV_of Try.underlying52 (by kernel_rfl)
instance Try.fv52_2 : FieldV Try.prog 52 2 26 2 := fieldV_of Try.underlying52 (by kernel_rfl)
instance Try.fv52_3 : FieldV Try.prog 52 3 26 3 := fieldV_of Try.underlying52 (by kernel_rfl)
instance Try.fv52_4 : FieldV Try.prog 52 4 3 4 := fieldV_of Try.underlying52 (by kernel_rfl)
instance Try.fv52_5 : FieldV Try.prog 52 5 2 5 := fieldV_of Try.underlying52 (by kernel_rfl)
instance Try.fv52_6 : FieldV Try.prog 52 6 2 6 := fieldV_of Try.underlying52 (by kernel_rfl)
instance Try.fv52_7 : FieldV Try.prog 52 7 2 7 := fieldV_of Try.underlying52 (by kernel_rfl)
instance Try.eqp52 : EqP Try.prog 52 [true, true, true, true, true, true, true, true] 2 := eqp_struct Try.underlying52 inferInstance rfl rfl (by kernel_rfl) ⟨by decide, rfl, [true], [true, true, true, true, true, true, true], 1, inferInstance, by decide, rfl, ⟨by decide, rfl, [true], [true, true, true, true, true, true], 1, inferInstance, by decide, rfl, ⟨by decide, rfl, [true], [true, true, true, true, true], 1, inferInstance, by decide, rfl, ⟨by decide, rfl, [true], [true, true, true, true], 1, inferInstance, by decide, rfl, ⟨by decide, rfl, [true], [true, true, true], 1, inferInstance, by decide, rfl, ⟨by decide, rfl, [true], [true, true], 1, inferInstance, by decide, rfl, ⟨by decide, rfl, [true], [true], 1, inferInstance, by decide, rfl, ⟨by decide, rfl, [true], [], 1, inferInstance, by decide, rfl, rfl⟩⟩⟩⟩⟩⟩⟩⟩
instance Try.eqg52 : EqG Try.prog 52 := ⟨by kernel_rfl⟩
instance Try.part55 : PartT Try.prog 55 none := part_scalar inferInstance
instance Try.part58 : PartT Try.prog 58 none := part_scalar inferInstance
instance Try.part59 : PartT Try.prog 59 (some 2) := part_agg inferInstance rfl
instance Try.bld59 : Bld Try.prog 59 [[.slice none 0 0], [.slice none 0 0]] := bld_struct Try.underlying59 (z := .agg #[.slice none 0 0, .slice none 0 0]) (fun _ => by kernel_rfl) rfl (by kernel_rfl) rfl
instance Try.fv59_0 : FieldV Try.prog 59 0 58 0 := fieldV_of Try.underlying59 (by kernel_rfl)
instance Try.fv59_1 : FieldV Try.prog 59 1 49 1 := fieldV_of Try.underlying59 (by kernel_rfl)
instance Try.part60 : PartT Try.prog 60 (some 2) := part_agg inferInstance rfl
instance Try.bld60 : Bld Try.prog 60 [[.slice none 0 0], [.slice none 0 0]] := bld_struct Try.underlying60 (z := .agg #[.slice none 0 0, .slice none 0 0]) (fun _ => by kernel_rfl) rfl (by kernel_rfl) rfl
instance Try.fv60_0 : FieldV Try.prog 60 0 58 0 := fieldV_of Try.underlying60 (by kernel_rfl)
instance Try.fv60_1 : FieldV Try.prog 60 1 49 1 := fieldV_of Try.underlying60 (by kernel_rfl)
instance Try.part62 : PartT Try.prog 62 none := part_scalar inferInstance
instance Try.eqp62 : EqP Try.prog 62 [true] 1 := eqp_int Try.underlying62 inferInstance
instance Try.part64 : PartT Try.prog 64 (some 2) := part_agg inferInstance rfl
instance Try.bld64 : Bld Try.prog 64 [[.int .i64 0], [.int .i64 0]] := bld_struct Try.underlying64 (z := .agg #[.int .i64 0, .int .i64 0]) (fun _ => by kernel_rfl) rfl (by kernel_rfl) rfl
instance Try.fv64_0 : FieldV Try.prog 64 0 3 0 := fieldV_of Try.underlying64 (by kernel_rfl)
instance Try.fv64_1 : FieldV Try.prog 64 1 3 1 := fieldV_of Try.underlying64 (by kernel_rfl)
instance Try.eqp64 : EqP Try.prog 64 [true, true] 2 := eqp_struct Try.underlying64 inferInstance rfl rfl (by kernel_rfl) ⟨by decide, rfl, [true], [true], 1, inferInstance, by decide, rfl, ⟨by decide, rfl, [true], [], 1, inferInstance, by decide, rfl, rfl⟩⟩
instance Try.eqg64 : EqG Try.prog 64 := ⟨by kernel_rfl⟩
instance Try.part65 : PartT Try.prog 65 (some 2) := part_agg inferInstance rfl
instance Try.bld65 : Bld Try.prog 65 [[.int .i64 0], [.int .i64 0]] := bld_struct Try.underlying65 (z := .agg #[.int .i64 0, .int .i64 0]) (fun _ => by kernel_rfl) rfl (by kernel_rfl) rfl
instance Try.fv65_0 : FieldV Try.prog 65 0 3 0 := fieldV_of Try.underlying65 (by kernel_rfl)
instance Try.fv65_1 : FieldV Try.prog 65 1 3 1 := fieldV_of Try.underlying65 (by kernel_rfl)
instance Try.eqp65 : EqP Try.prog 65 [true, true] 2 := eqp_struct Try.underlying65 inferInstance rfl rfl (by kernel_rfl) ⟨by decide, rfl, [true], [true], 1, inferInstance, by decide, rfl, ⟨by decide, rfl, [true], [], 1, inferInstance, by decide, rfl, rfl⟩⟩
instance Try.eqg65 : EqG Try.prog 65 := ⟨by kernel_rfl⟩
instance Try.part69 : PartT Try.prog 69 (some 11) := part_agg inferInstance rfl
instance Try.bld69 : Bld Try.prog 69 [[.bool false], [.int .i64 0], [.int .u32 0], [.int .i64 0, .int .i64 0, .int .u32 0, .int .u32 0, .int .i64 0, .int .i64 0, .int .i64 0, .int .i64 0]] := bld_struct Try.underlying69 (z := .agg #[.bool false, .int .i64 0, .int .u32 0, .int .i64 0, .int .i64 0, .int .u32 0, .int .u32 0, .int .i64 0, .int .i64 0, .int .i64 0, .int .i64 0]) (fun _ => by kernel_rfl) rfl (by kernel_rfl) rfl
instance Try.fv69_0 : FieldV Try.prog 69 0 4 0 := fieldV_of Try.underlying69 (by kernel_rfl)
instance Try.fv69_1 : FieldV Try.prog 69 1 3 1 := fieldV_of Try.underlying69 (by kernel_rfl)
instance Try.fv69_2 : FieldV Try.prog 69 2 26 2 := fieldV_of Try.underlying69 (by kernel_rfl)
instance Try.fv69_3 : FieldV Try.prog 69 3 52 3 := fieldV_of Try.underlying69 (by kernel_rfl)
instance Try.eqp69 : EqP Try.prog 69 [false, true, true, true, true, true, true, true, true, true, true] 3 := eqp_struct Try.underlying69 inferInstance rfl rfl (by kernel_rfl) ⟨by decide, rfl, [false], [true, true, true, true, true, true, true, true, true, true], 1, inferInstance, by decide, rfl, ⟨by decide, rfl, [true], [true, true, true, true, true, true, true, true, true], 1, inferInstance, by decide, rfl, ⟨by decide, rfl, [true], [true, true, true, true, true, true, true, true], 1, inferInstance, by decide, rfl, ⟨by decide, rfl, [true, true, true, true, true, true, true, true], [], 2, inferInstance, by decide, rfl, rfl⟩⟩⟩⟩
instance Try.eqg69 : EqG Try.prog 69 := ⟨by kernel_rfl⟩
instance Try.part70 : PartT Try.prog 70 (some 11) := part_agg inferInstance rfl
instance Try.bld70 : Bld Try.prog 70 [[.bool false], [.int .i64 0], [.int .u32 0], [.int .i64 0, .int .i64 0, .int .u32 0, .int .u32 0, .int .i64 0, .int .i64 0, .int .i64 0, .int .i64 0]] := bld_struct Try.underlying70 (z := .agg #[.bool false, .int .i64 0, .int .u32 0, .int .i64 0, .int .i64 0, .int .u32 0, .int .u32 0, .int .i64 0, .int .i64 0, .int .i64 0, .int .i64 0]) (fun _ => by kernel_rfl) rfl (by kernel_rfl) rfl
instance Try.fv70_0 : FieldV Try.prog 70 0 4 0 := fieldV_of Try.underlying70 (by kernel_rfl)
instance Try.fv70_1 : FieldV Try.prog 70 1 3 1 := fieldV_of Try.underlying70 (by kernel_rfl)
instance Try.fv70_2 : FieldV Try.prog 70 2 26 2 := fieldV_of Try.underlying70 (by kernel_rfl)
instance Try.fv70_3 : FieldV Try.prog 70 3 52 3 := fieldV_of Try.underlying70 (by kernel_rfl)
instance Try.eqp70 : EqP Try.prog 70 [false, true, true, true, true, true, true, true, true, true, true] 3 := eqp_struct Try.underlying70 inferInstance rfl rfl (by kernel_rfl) ⟨by decide, rfl, [false], [true, true, true, true, true, true, true, true, true, true], 1, inferInstance, by decide, rfl, ⟨by decide, rfl, [true], [true, true, true, true, true, true, true, true, true], 1, inferInstance, by decide, rfl, ⟨by decide, rfl, [true], [true, true, true, true, true, true, true, true], 1, inferInstance, by decide, rfl, ⟨by decide, rfl, [true, true, true, true, true, true, true, true], [], 2, inferInstance, by decide, rfl, rfl⟩⟩⟩⟩
instance Try.eqg70 : EqG Try.prog 70 := ⟨by kernel_rfl⟩
instance Try.part89 : PartT Try.prog 89 none := part_scalar inferInstance
instance Try.part90 : PartT Try.prog 90 none := part_scalar inferInstance
instance Try.part91 : PartT Try.prog 91 none := part_scalar inferInstance
instance Try.part92 : PartT Try.prog 92 (some 4) := part_agg inferInstance rfl
instance Try.bld92 : Bld Try.prog 92 [[.pointer none], [.slice none 0 0], [.slice none 0 0], [.int .u64 0]] := bld_struct Try.underlying92 (z := .agg #[.pointer none, .slice none 0 0, .slice none 0 0, .int .u64 0]) (fun _ => by kernel_rfl) rfl (by kernel_rfl) rfl
instance Try.fv92_0 : FieldV Try.prog 92 0 89 0 := fieldV_of Try.underlying92 (by kernel_rfl)
instance Try.fv92_1 : FieldV Try.prog 92 1 90 1 := fieldV_of Try.underlying92 (by kernel_rfl)
instance Try.fv92_2 : FieldV Try.prog 92 2 91 2 := fieldV_of Try.underlying92 (by kernel_rfl)
instance Try.fv92_3 : FieldV Try.prog 92 3 23 3 := fieldV_of Try.underlying92 (by kernel_rfl)
instance Try.part93 : PartT Try.prog 93 (some 4) := part_agg inferInstance rfl
instance Try.bld93 : Bld Try.prog 93 [[.pointer none], [.slice none 0 0], [.slice none 0 0], [.int .u64 0]] := bld_struct Try.underlying93 (z := .agg #[.pointer none, .slice none 0 0, .slice none 0 0, .int .u64 0]) (fun _ => by kernel_rfl) rfl (by kernel_rfl) rfl
instance Try.fv93_0 : FieldV Try.prog 93 0 89 0 := fieldV_of Try.underlying93 (by kernel_rfl)
instance Try.fv93_1 : FieldV Try.prog 93 1 90 1 := fieldV_of Try.underlying93 (by kernel_rfl)
instance Try.fv93_2 : FieldV Try.prog 93 2 91 2 := fieldV_of Try.underlying93 (by kernel_rfl)
instance Try.fv93_3 : FieldV Try.prog 93 3 23 3 := fieldV_of Try.underlying93 (by kernel_rfl)
instance Try.part100 : PartT Try.prog 100 (some 3) := part_agg inferInstance rfl
instance Try.bld100 : Bld Try.prog 100 [[.int .i64 0], [.int .i64 0], [.int .i64 0]] := bld_struct Try.underlying100 (z := .agg #[.int .i64 0, .int .i64 0, .int .i64 0]) (fun _ => by kernel_rfl) rfl (by kernel_rfl) rfl
instance Try.fv100_0 : FieldV Try.prog 100 0 2 0 := fieldV_of Try.underlying100 (by kernel_rfl)
instance Try.fv100_1 : FieldV Try.prog 100 1 3 1 := fieldV_of Try.underlying100 (by kernel_rfl)
instance Try.fv100_2 : FieldV Try.prog 100 2 3 2 := fieldV_of Try.underlying100 (by kernel_rfl)
instance Try.eqp100 : EqP Try.prog 100 [true, true, true] 2 := eqp_struct Try.underlying100 inferInstance rfl rfl (by kernel_rfl) ⟨by decide, rfl, [true], [true, true], 1, inferInstance, by decide, rfl, ⟨by decide, rfl, [true], [true], 1, inferInstance, by decide, rfl, ⟨by decide, rfl, [true], [], 1, inferInstance, by decide, rfl, rfl⟩⟩⟩
instance Try.eqg100 : EqG Try.prog 100 := ⟨by kernel_rfl⟩
instance Try.part101 : PartT Try.prog 101 (some 3) := part_agg inferInstance rfl
instance Try.bld101 : Bld Try.prog 101 [[.int .i64 0], [.int .i64 0], [.int .i64 0]] := bld_struct Try.underlying101 (z := .agg #[.int .i64 0, .int .i64 0, .int .i64 0]) (fun _ => by kernel_rfl) rfl (by kernel_rfl) rfl
instance Try.fv101_0 : FieldV Try.prog 101 0 2 0 := fieldV_of Try.underlying101 (by kernel_rfl)
instance Try.fv101_1 : FieldV Try.prog 101 1 3 1 := fieldV_of Try.underlying101 (by kernel_rfl)
instance Try.fv101_2 : FieldV Try.prog 101 2 3 2 := fieldV_of Try.underlying101 (by kernel_rfl)
instance Try.eqp101 : EqP Try.prog 101 [true, true, true] 2 := eqp_struct Try.underlying101 inferInstance rfl rfl (by kernel_rfl) ⟨by decide, rfl, [true], [true, true], 1, inferInstance, by decide, rfl, ⟨by decide, rfl, [true], [true], 1, inferInstance, by decide, rfl, ⟨by decide, rfl, [true], [], 1, inferInstance, by decide, rfl, rfl⟩⟩⟩
instance Try.eqg101 : EqG Try.prog 101 := ⟨by kernel_rfl⟩
instance Try.part107 : PartT Try.prog 107 none := part_scalar inferInstance
instance Try.part108 : PartT Try.prog 108 (some 5) := part_agg inferInstance rfl
instance Try.bld108 : Bld Try.prog 108 [[.slice none 0 0, .slice none 0 0], [.int .i64 0], [.bool false], [.int .i64 0]] := bld_struct Try.underlying108 (z := .agg #[.slice none 0 0, .slice none 0 0, .int .i64 0, .bool false, .int .i64 0]) (fun _ => by kernel_rfl) rfl (by kernel_rfl) rfl
instance Try.fv108_0 : FieldV Try.prog 108 0 60 0 := fieldV_of Try.underlying108 (by kernel_rfl)
instance Try.fv108_1 : FieldV Try.prog 108 1 2 2 := fieldV_of Try.underlying108 (by kernel_rfl)
instance Try.fv108_2 : FieldV Try.prog 108 2 4 3 := fieldV_of Try.underlying108 (by kernel_rfl)
instance Try.fv108_3 : FieldV Try.prog 108 3 3 4 := fieldV_of Try.underlying108 (by kernel_rfl)
instance Try.part109 : PartT Try.prog 109 (some 5) := part_agg inferInstance rfl
instance Try.bld109 : Bld Try.prog 109 [[.slice none 0 0, .slice none 0 0], [.int .i64 0], [.bool false], [.int .i64 0]] := bld_struct Try.underlying109 (z := .agg #[.slice none 0 0, .slice none 0 0, .int .i64 0, .bool false, .int .i64 0]) (fun _ => by kernel_rfl) rfl (by kernel_rfl) rfl
instance Try.fv109_0 : FieldV Try.prog 109 0 60 0 := fieldV_of Try.underlying109 (by kernel_rfl)
instance Try.fv109_1 : FieldV Try.prog 109 1 2 2 := fieldV_of Try.underlying109 (by kernel_rfl)
instance Try.fv109_2 : FieldV Try.prog 109 2 4 3 := fieldV_of Try.underlying109 (by kernel_rfl)
instance Try.fv109_3 : FieldV Try.prog 109 3 3 4 := fieldV_of Try.underlying109 (by kernel_rfl)
instance Try.part124 : PartT Try.prog 124 none := part_scalar inferInstance
instance Try.part125 : PartT Try.prog 125 (some 4) := part_agg inferInstance rfl
instance Try.bld125 : Bld Try.prog 125 [[.slice none 0 0], [.slice none 0 0], [.slice none 0 0], [.int .u32 0]] := bld_struct Try.underlying125 (z := .agg #[.slice none 0 0, .slice none 0 0, .slice none 0 0, .int .u32 0]) (fun _ => by kernel_rfl) rfl (by kernel_rfl) rfl
instance Try.fv125_0 : FieldV Try.prog 125 0 124 0 := fieldV_of Try.underlying125 (by kernel_rfl)
instance Try.fv125_1 : FieldV Try.prog 125 1 49 1 := fieldV_of Try.underlying125 (by kernel_rfl)
instance Try.fv125_2 : FieldV Try.prog 125 2 49 2 := fieldV_of Try.underlying125 (by kernel_rfl)
instance Try.fv125_3 : FieldV Try.prog 125 3 26 3 := fieldV_of Try.underlying125 (by kernel_rfl)
instance Try.part126 : PartT Try.prog 126 (some 4) := part_agg inferInstance rfl
instance Try.bld126 : Bld Try.prog 126 [[.slice none 0 0], [.slice none 0 0], [.slice none 0 0], [.int .u32 0]] := bld_struct Try.underlying126 (z := .agg #[.slice none 0 0, .slice none 0 0, .slice none 0 0, .int .u32 0]) (fun _ => by kernel_rfl) rfl (by kernel_rfl) rfl
instance Try.fv126_0 : FieldV Try.prog 126 0 124 0 := fieldV_of Try.underlying126 (by kernel_rfl)
instance Try.fv126_1 : FieldV Try.prog 126 1 49 1 := fieldV_of Try.underlying126 (by kernel_rfl)
instance Try.fv126_2 : FieldV Try.prog 126 2 49 2 := fieldV_of Try.underlying126 (by kernel_rfl)
instance Try.fv126_3 : FieldV Try.prog 126 3 26 3 := fieldV_of Try.underlying126 (by kernel_rfl)
instance Try.part127 : PartT Try.prog 127 (some 2) := part_agg inferInstance rfl
instance Try.bld127 : Bld Try.prog 127 [[.int .u32 0], [.int .u32 0]] := bld_array (m := 1) Try.underlying127 (z := .agg #[.int .u32 0, .int .u32 0]) (fun _ => by kernel_rfl) rfl (by kernel_rfl) (by decide) rfl
instance Try.part128 : PartT Try.prog 128 none := part_scalar inferInstance
instance Try.part140 : PartT Try.prog 140 none := part_scalar inferInstance
instance Try.part143 : PartT Try.prog 143 (some 11) := part_agg inferInstance rfl
instance Try.bld143 : Bld Try.prog 143 [[.int .u64 0], [.int .u64 0], [.int .u32 0], [.int .u8 0], [.int .u8 0], [.int .u8 0], [.int .u8 0], [.nilFunc], [.pointer none], [.int .i32 0], [.int .i32 0]] := bld_struct Try.underlying143 (z := .agg #[.int .u64 0, .int .u64 0, .int .u32 0, .int .u8 0, .int .u8 0, .int .u8 0, .int .u8 0, .nilFunc, .pointer none, .int .i32 0, .int .i32 0]) (fun _ => by kernel_rfl) rfl (by kernel_rfl) rfl
instance Try.fv143_0 : FieldV Try.prog 143 0 12 0 := fieldV_of Try.underlying143 (by kernel_rfl)
instance Try.fv143_1 : FieldV Try.prog 143 1 12 1 := fieldV_of Try.underlying143 (by kernel_rfl)
instance Try.fv143_2 : FieldV Try.prog 143 2 26 2 := fieldV_of Try.underlying143 (by kernel_rfl)
instance Try.fv143_3 : FieldV Try.prog 143 3 137 3 := fieldV_of Try.underlying143 (by kernel_rfl)
instance Try.fv143_4 : FieldV Try.prog 143 4 5 4 := fieldV_of Try.underlying143 (by kernel_rfl)
instance Try.fv143_5 : FieldV Try.prog 143 5 5 5 := fieldV_of Try.underlying143 (by kernel_rfl)
instance Try.fv143_6 : FieldV Try.prog 143 6 138 6 := fieldV_of Try.underlying143 (by kernel_rfl)
instance Try.fv143_7 : FieldV Try.prog 143 7 139 7 := fieldV_of Try.underlying143 (by kernel_rfl)
instance Try.fv143_8 : FieldV Try.prog 143 8 140 8 := fieldV_of Try.underlying143 (by kernel_rfl)
instance Try.fv143_9 : FieldV Try.prog 143 9 141 9 := fieldV_of Try.underlying143 (by kernel_rfl)
instance Try.fv143_10 : FieldV Try.prog 143 10 142 10 := fieldV_of Try.underlying143 (by kernel_rfl)
instance Try.ent3 : Enters Try.prog 3 := enters_of Try.func3 rfl (by kernel_rfl)
instance Try.ent4 : Enters Try.prog 4 := enters_of Try.func4 rfl (by kernel_rfl)
instance Try.ent5 : Enters Try.prog 5 := enters_of Try.func5 rfl (by kernel_rfl)
instance Try.ent6 : Enters Try.prog 6 := enters_of Try.func6 rfl (by kernel_rfl)
instance Try.ent7 : Enters Try.prog 7 := enters_of Try.func7 rfl (by kernel_rfl)
instance Try.ent8 : Enters Try.prog 8 := enters_of Try.func8 rfl (by kernel_rfl)
instance Try.ent9 : Enters Try.prog 9 := enters_of Try.func9 rfl (by kernel_rfl)
instance Try.ent10 : Enters Try.prog 10 := enters_of Try.func10 rfl (by kernel_rfl)
instance Try.ent11 : Enters Try.prog 11 := enters_of Try.func11 rfl (by kernel_rfl)
instance Try.ent12 : Enters Try.prog 12 := enters_of Try.func12 rfl (by kernel_rfl)
instance Try.ent13 : Enters Try.prog 13 := enters_of Try.func13 rfl (by kernel_rfl)
instance Try.ent14 : Enters Try.prog 14 := enters_of Try.func14 rfl (by kernel_rfl)
instance Try.ent15 : Enters Try.prog 15 := enters_of Try.func15 rfl (by kernel_rfl)
instance Try.ent16 : Enters Try.prog 16 := enters_of Try.func16 rfl (by kernel_rfl)
instance Try.ent17 : Enters Try.prog 17 := enters_of Try.func17 rfl (by kernel_rfl)
instance Try.ent18 : Enters Try.prog 18 := enters_of Try.func18 rfl (by kernel_rfl)
instance Try.ent19 : Enters Try.prog 19 := enters_of Try.func19 rfl (by kernel_rfl)
instance Try.ent20 : Enters Try.prog 20 := enters_of Try.func20 rfl (by kernel_rfl)
instance Try.ent21 : Enters Try.prog 21 := enters_of Try.func21 rfl (by kernel_rfl)
instance Try.ent22 : Enters Try.prog 22 := enters_of Try.func22 rfl (by kernel_rfl)
instance Try.ent23 : Enters Try.prog 23 := enters_of Try.func23 rfl (by kernel_rfl)
instance Try.ent24 : Enters Try.prog 24 := enters_of Try.func24 rfl (by kernel_rfl)
instance Try.ent25 : Enters Try.prog 25 := enters_of Try.func25 rfl (by kernel_rfl)
instance Try.ent26 : Enters Try.prog 26 := enters_of Try.func26 rfl (by kernel_rfl)
instance Try.ent27 : Enters Try.prog 27 := enters_of Try.func27 rfl (by kernel_rfl)
instance Try.ent28 : Enters Try.prog 28 := enters_of Try.func28 rfl (by kernel_rfl)
instance Try.ent29 : Enters Try.prog 29 := enters_of Try.func29 rfl (by kernel_rfl)
instance Try.ent30 : Enters Try.prog 30 := enters_of Try.func30 rfl (by kernel_rfl)
instance Try.ent31 : Enters Try.prog 31 := enters_of Try.func31 rfl (by kernel_rfl)
instance Try.ent32 : Enters Try.prog 32 := enters_of Try.func32 rfl (by kernel_rfl)
instance Try.ent33 : Enters Try.prog 33 := enters_of Try.func33 rfl (by kernel_rfl)
instance Try.ent34 : Enters Try.prog 34 := enters_of Try.func34 rfl (by kernel_rfl)
instance Try.ent35 : Enters Try.prog 35 := enters_of Try.func35 rfl (by kernel_rfl)
instance Try.ent36 : Enters Try.prog 36 := enters_of Try.func36 rfl (by kernel_rfl)
instance Try.ent37 : Enters Try.prog 37 := enters_of Try.func37 rfl (by kernel_rfl)
instance Try.ent38 : Enters Try.prog 38 := enters_of Try.func38 rfl (by kernel_rfl)
instance Try.ent39 : Enters Try.prog 39 := enters_of Try.func39 rfl (by kernel_rfl)
instance Try.ent40 : Enters Try.prog 40 := enters_of Try.func40 rfl (by kernel_rfl)
instance Try.ent41 : Enters Try.prog 41 := enters_of Try.func41 rfl (by kernel_rfl)
instance Try.ent42 : Enters Try.prog 42 := enters_of Try.func42 rfl (by kernel_rfl)
instance Try.ent43 : Enters Try.prog 43 := enters_of Try.func43 rfl (by kernel_rfl)
instance Try.ent44 : Enters Try.prog 44 := enters_of Try.func44 rfl (by kernel_rfl)
instance Try.ent45 : Enters Try.prog 45 := enters_of Try.func45 rfl (by kernel_rfl)
instance Try.ent46 : Enters Try.prog 46 := enters_of Try.func46 rfl (by kernel_rfl)
instance Try.ent47 : Enters Try.prog 47 := enters_of Try.func47 rfl (by kernel_rfl)
instance Try.ent48 : Enters Try.prog 48 := enters_of Try.func48 rfl (by kernel_rfl)
instance Try.ent49 : Enters Try.prog 49 := enters_of Try.func49 rfl (by kernel_rfl)
instance Try.ent50 : Enters Try.prog 50 := enters_of Try.func50 rfl (by kernel_rfl)
instance Try.ent51 : Enters Try.prog 51 := enters_of Try.func51 rfl (by kernel_rfl)
instance Try.ent52 : Enters Try.prog 52 := enters_of Try.func52 rfl (by kernel_rfl)
instance Try.ent53 : Enters Try.prog 53 := enters_of Try.func53 rfl (by kernel_rfl)
instance Try.ent54 : Enters Try.prog 54 := enters_of Try.func54 rfl (by kernel_rfl)
instance Try.ent55 : Enters Try.prog 55 := enters_of Try.func55 rfl (by kernel_rfl)
instance Try.ent56 : Enters Try.prog 56 := enters_of Try.func56 rfl (by kernel_rfl)
instance Try.ent57 : Enters Try.prog 57 := enters_of Try.func57 rfl (by kernel_rfl)
instance Try.ent58 : Enters Try.prog 58 := enters_of Try.func58 rfl (by kernel_rfl)
instance Try.ent59 : Enters Try.prog 59 := enters_of Try.func59 rfl (by kernel_rfl)
instance Try.ent60 : Enters Try.prog 60 := enters_of Try.func60 rfl (by kernel_rfl)
instance Try.ent61 : Enters Try.prog 61 := enters_of Try.func61 rfl (by kernel_rfl)
instance Try.ent62 : Enters Try.prog 62 := enters_of Try.func62 rfl (by kernel_rfl)
instance Try.ent63 : Enters Try.prog 63 := enters_of Try.func63 rfl (by kernel_rfl)
instance Try.ent64 : Enters Try.prog 64 := enters_of Try.func64 rfl (by kernel_rfl)
instance Try.ent65 : Enters Try.prog 65 := enters_of Try.func65 rfl (by kernel_rfl)
instance Try.ent66 : Enters Try.prog 66 := enters_of Try.func66 rfl (by kernel_rfl)
instance Try.ent67 : Enters Try.prog 67 := enters_of Try.func67 rfl (by kernel_rfl)
instance Try.ent68 : Enters Try.prog 68 := enters_of Try.func68 rfl (by kernel_rfl)
instance Try.ent69 : Enters Try.prog 69 := enters_of Try.func69 rfl (by kernel_rfl)
instance Try.ent70 : Enters Try.prog 70 := enters_of Try.func70 rfl (by kernel_rfl)
instance Try.ent71 : Enters Try.prog 71 := enters_of Try.func71 rfl (by kernel_rfl)
instance Try.ent72 : Enters Try.prog 72 := enters_of Try.func72 rfl (by kernel_rfl)
instance Try.ent73 : Enters Try.prog 73 := enters_of Try.func73 rfl (by kernel_rfl)
instance Try.ent74 : Enters Try.prog 74 := enters_of Try.func74 rfl (by kernel_rfl)
instance Try.ent75 : Enters Try.prog 75 := enters_of Try.func75 rfl (by kernel_rfl)
instance Try.ent76 : Enters Try.prog 76 := enters_of Try.func76 rfl (by kernel_rfl)
instance Try.ent77 : Enters Try.prog 77 := enters_of Try.func77 rfl (by kernel_rfl)
instance Try.ent78 : Enters Try.prog 78 := enters_of Try.func78 rfl (by kernel_rfl)
instance Try.ent79 : Enters Try.prog 79 := enters_of Try.func79 rfl (by kernel_rfl)
instance Try.ent80 : Enters Try.prog 80 := enters_of Try.func80 rfl (by kernel_rfl)
instance Try.ent81 : Enters Try.prog 81 := enters_of Try.func81 rfl (by kernel_rfl)
instance Try.ent82 : Enters Try.prog 82 := enters_of Try.func82 rfl (by kernel_rfl)
instance Try.ent83 : Enters Try.prog 83 := enters_of Try.func83 rfl (by kernel_rfl)
instance Try.ent84 : Enters Try.prog 84 := enters_of Try.func84 rfl (by kernel_rfl)
instance Try.ent85 : Enters Try.prog 85 := enters_of Try.func85 rfl (by kernel_rfl)
instance Try.ent86 : Enters Try.prog 86 := enters_of Try.func86 rfl (by kernel_rfl)
instance Try.ent87 : Enters Try.prog 87 := enters_of Try.func87 rfl (by kernel_rfl)
instance Try.ent88 : Enters Try.prog 88 := enters_of Try.func88 rfl (by kernel_rfl)
instance Try.ent89 : Enters Try.prog 89 := enters_of Try.func89 rfl (by kernel_rfl)
instance Try.ent90 : Enters Try.prog 90 := enters_of Try.func90 rfl (by kernel_rfl)
instance Try.ent91 : Enters Try.prog 91 := enters_of Try.func91 rfl (by kernel_rfl)
instance Try.ent92 : Enters Try.prog 92 := enters_of Try.func92 rfl (by kernel_rfl)
instance Try.ent93 : Enters Try.prog 93 := enters_of Try.func93 rfl (by kernel_rfl)
instance Try.ent94 : Enters Try.prog 94 := enters_of Try.func94 rfl (by kernel_rfl)
instance Try.ent95 : Enters Try.prog 95 := enters_of Try.func95 rfl (by kernel_rfl)
end Go.Proofs
