/-
  Facts on the types and functions of the translation that the walks use: sizes, places of fields, zero values; that a call enters the function. Written by a program (wip/gen.py).
-/
import Derived.Test.YtklgmomhdlhajaaVc
import Derived.Test.YtklgmomhdlhajaaChecked
namespace Go.Proofs
open Go.Vc
theorem Try.follows : Try.prog.follows .mixedOrders = true := by kernel_rfl
instance Try.uty2 : UTy Try.prog 2 (.int .i64) := ⟨Try.underlying2⟩
instance Try.sca2 : Scalar Try.prog 2 := scalar_of Try.underlying2 rfl (by kernel_rfl)
instance Try.zero2 : Zero Try.prog 2 [.int .i64 0] := ⟨.int .i64 0, fun _ => by kernel_rfl, rfl⟩
instance Try.uty3 : UTy Try.prog 3 (.int .i64) := ⟨Try.underlying3⟩
instance Try.sca3 : Scalar Try.prog 3 := scalar_of Try.underlying3 rfl (by kernel_rfl)
instance Try.zero3 : Zero Try.prog 3 [.int .i64 0] := ⟨.int .i64 0, fun _ => by kernel_rfl, rfl⟩
instance Try.uty4 : UTy Try.prog 4 .bool := ⟨Try.underlying4⟩
instance Try.sca4 : Scalar Try.prog 4 := scalar_of Try.underlying4 rfl (by kernel_rfl)
instance Try.zero4 : Zero Try.prog 4 [.bool false] := ⟨.bool false, fun _ => by kernel_rfl, rfl⟩
instance Try.uty5 : UTy Try.prog 5 (.int .u8) := ⟨Try.underlying5⟩
instance Try.sca5 : Scalar Try.prog 5 := scalar_of Try.underlying5 rfl (by kernel_rfl)
instance Try.zero5 : Zero Try.prog 5 [.int .u8 0] := ⟨.int .u8 0, fun _ => by kernel_rfl, rfl⟩
instance Try.uty9 : UTy Try.prog 9 .string := ⟨Try.underlying9⟩
instance Try.sca9 : Scalar Try.prog 9 := scalar_of Try.underlying9 rfl (by kernel_rfl)
instance Try.zero9 : Zero Try.prog 9 [.string .empty] := ⟨.string .empty, fun _ => by kernel_rfl, rfl⟩
instance Try.uty12 : UTy Try.prog 12 (.int .u64) := ⟨Try.underlying12⟩
instance Try.sca12 : Scalar Try.prog 12 := scalar_of Try.underlying12 rfl (by kernel_rfl)
instance Try.zero12 : Zero Try.prog 12 [.int .u64 0] := ⟨.int .u64 0, fun _ => by kernel_rfl, rfl⟩
instance Try.uty15 : UTy Try.prog 15 (.pointer 132) := ⟨Try.underlying15⟩
instance Try.sca15 : Scalar Try.prog 15 := scalar_of Try.underlying15 rfl (by kernel_rfl)
instance Try.zero15 : Zero Try.prog 15 [.pointer none] := ⟨.pointer none, fun _ => by kernel_rfl, rfl⟩
instance Try.uty16 : UTy Try.prog 16 (.pointer 135) := ⟨Try.underlying16⟩
instance Try.sca16 : Scalar Try.prog 16 := scalar_of Try.underlying16 rfl (by kernel_rfl)
instance Try.zero16 : Zero Try.prog 16 [.pointer none] := ⟨.pointer none, fun _ => by kernel_rfl, rfl⟩
instance Try.uty17 : UTy Try.prog 17 (.pointer 143) := ⟨Try.underlying17⟩
instance Try.sca17 : Scalar Try.prog 17 := scalar_of Try.underlying17 rfl (by kernel_rfl)
instance Try.zero17 : Zero Try.prog 17 [.pointer none] := ⟨.pointer none, fun _ => by kernel_rfl, rfl⟩
instance Try.uty21 : UTy Try.prog 21 (.int .i32) := ⟨Try.underlying21⟩
instance Try.sca21 : Scalar Try.prog 21 := scalar_of Try.underlying21 rfl (by kernel_rfl)
instance Try.zero21 : Zero Try.prog 21 [.int .i32 0] := ⟨.int .i32 0, fun _ => by kernel_rfl, rfl⟩
instance Try.agg22 : Agg Try.prog 22 4 := agg_of Try.underlying22 rfl (by kernel_rfl)
instance Try.fld22_0 : FieldOff Try.prog 22 0 0 := field_of (m := 1) Try.underlying22 (by kernel_rfl) rfl
instance Try.fld22_1 : FieldOff Try.prog 22 1 1 := field_of (m := 1) Try.underlying22 (by kernel_rfl) rfl
instance Try.fld22_2 : FieldOff Try.prog 22 2 2 := field_of (m := 1) Try.underlying22 (by kernel_rfl) rfl
instance Try.fld22_3 : FieldOff Try.prog 22 3 3 := field_of (m := 1) Try.underlying22 (by kernel_rfl) rfl
instance Try.zero22 : Zero Try.prog 22 [.int .i64 0, .int .i64 0, .int .i64 0, .int .i64 0] := ⟨.agg #[.int .i64 0, .int .i64 0, .int .i64 0, .int .i64 0], fun _ => by kernel_rfl, rfl⟩
instance Try.agg23 : Agg Try.prog 23 4 := agg_of Try.underlying23 rfl (by kernel_rfl)
instance Try.fld23_0 : FieldOff Try.prog 23 0 0 := field_of (m := 1) Try.underlying23 (by kernel_rfl) rfl
instance Try.fld23_1 : FieldOff Try.prog 23 1 1 := field_of (m := 1) Try.underlying23 (by kernel_rfl) rfl
instance Try.fld23_2 : FieldOff Try.prog 23 2 2 := field_of (m := 1) Try.underlying23 (by kernel_rfl) rfl
instance Try.fld23_3 : FieldOff Try.prog 23 3 3 := field_of (m := 1) Try.underlying23 (by kernel_rfl) rfl
instance Try.zero23 : Zero Try.prog 23 [.int .i64 0, .int .i64 0, .int .i64 0, .int .i64 0] := ⟨.agg #[.int .i64 0, .int .i64 0, .int .i64 0, .int .i64 0], fun _ => by kernel_rfl, rfl⟩
instance Try.uty28 : UTy Try.prog 28 (.slice 53) := ⟨Try.underlying28⟩
instance Try.sca28 : Scalar Try.prog 28 := scalar_of Try.underlying28 rfl (by kernel_rfl)
theorem Try.erow28 : (Try.prog.info? 53).map (fun i => (i.zero, i.size, i.bytes)) = some (some (.agg #[.int .i64 0, .int .i64 0]), 2, 16) := by kernel_rfl
instance Try.elem28 : Elem Try.prog 28 53 2 16 := elem_of Try.underlying28 Try.erow28 rfl
instance Try.zero28 : Zero Try.prog 28 [.slice none 0 0] := ⟨.slice none 0 0, fun _ => by kernel_rfl, rfl⟩
instance Try.uty29 : UTy Try.prog 29 (.int .u64) := ⟨Try.underlying29⟩
instance Try.sca29 : Scalar Try.prog 29 := scalar_of Try.underlying29 rfl (by kernel_rfl)
instance Try.zero29 : Zero Try.prog 29 [.int .u64 0] := ⟨.int .u64 0, fun _ => by kernel_rfl, rfl⟩
instance Try.uty31 : UTy Try.prog 31 (.pointer 83) := ⟨Try.underlying31⟩
instance Try.sca31 : Scalar Try.prog 31 := scalar_of Try.underlying31 rfl (by kernel_rfl)
instance Try.zero31 : Zero Try.prog 31 [.pointer none] := ⟨.pointer none, fun _ => by kernel_rfl, rfl⟩
instance Try.uty32 : UTy Try.prog 32 (.int .u32) := ⟨Try.underlying32⟩
instance Try.sca32 : Scalar Try.prog 32 := scalar_of Try.underlying32 rfl (by kernel_rfl)
instance Try.zero32 : Zero Try.prog 32 [.int .u32 0] := ⟨.int .u32 0, fun _ => by kernel_rfl, rfl⟩
instance Try.uty46 : UTy Try.prog 46 (.slice 95) := ⟨Try.underlying46⟩
instance Try.sca46 : Scalar Try.prog 46 := scalar_of Try.underlying46 rfl (by kernel_rfl)
theorem Try.erow46 : (Try.prog.info? 95).map (fun i => (i.zero, i.size, i.bytes)) = some (some (.agg #[.bool false, .int .i64 0, .int .u32 0, .int .i64 0, .int .i64 0, .int .u32 0, .int .u32 0, .int .i64 0, .int .i64 0, .int .i64 0, .int .i64 0]), 11, 80) := by kernel_rfl
instance Try.elem46 : Elem Try.prog 46 95 11 80 := elem_of Try.underlying46 Try.erow46 rfl
instance Try.zero46 : Zero Try.prog 46 [.slice none 0 0] := ⟨.slice none 0 0, fun _ => by kernel_rfl, rfl⟩
instance Try.uty47 : UTy Try.prog 47 (.slice 32) := ⟨Try.underlying47⟩
instance Try.sca47 : Scalar Try.prog 47 := scalar_of Try.underlying47 rfl (by kernel_rfl)
theorem Try.erow47 : (Try.prog.info? 32).map (fun i => (i.zero, i.size, i.bytes)) = some (some (.int .u32 0), 1, 4) := by kernel_rfl
instance Try.elem47 : Elem Try.prog 47 32 1 4 := elem_of Try.underlying47 Try.erow47 rfl
instance Try.zero47 : Zero Try.prog 47 [.slice none 0 0] := ⟨.slice none 0 0, fun _ => by kernel_rfl, rfl⟩
instance Try.agg48 : Agg Try.prog 48 2 := agg_of Try.underlying48 rfl (by kernel_rfl)
instance Try.fld48_0 : FieldOff Try.prog 48 0 0 := field_of (m := 1) Try.underlying48 (by kernel_rfl) rfl
instance Try.fld48_1 : FieldOff Try.prog 48 1 1 := field_of (m := 1) Try.underlying48 (by kernel_rfl) rfl
instance Try.zero48 : Zero Try.prog 48 [.slice none 0 0, .slice none 0 0] := ⟨.agg #[.slice none 0 0, .slice none 0 0], fun _ => by kernel_rfl, rfl⟩
instance Try.agg49 : Agg Try.prog 49 2 := agg_of Try.underlying49 rfl (by kernel_rfl)
instance Try.fld49_0 : FieldOff Try.prog 49 0 0 := field_of (m := 1) Try.underlying49 (by kernel_rfl) rfl
instance Try.fld49_1 : FieldOff Try.prog 49 1 1 := field_of (m := 1) Try.underlying49 (by kernel_rfl) rfl
instance Try.zero49 : Zero Try.prog 49 [.slice none 0 0, .slice none 0 0] := ⟨.agg #[.slice none 0 0, .slice none 0 0], fun _ => by kernel_rfl, rfl⟩
instance Try.agg52 : Agg Try.prog 52 2 := agg_of Try.underlying52 rfl (by kernel_rfl)
instance Try.fld52_0 : FieldOff Try.prog 52 0 0 := field_of (m := 1) Try.underlying52 (by kernel_rfl) rfl
instance Try.fld52_1 : FieldOff Try.prog 52 1 1 := field_of (m := 1) Try.underlying52 (by kernel_rfl) rfl
instance Try.zero52 : Zero Try.prog 52 [.int .i64 0, .int .i64 0] := ⟨.agg #[.int .i64 0, .int .i64 0], fun _ => by kernel_rfl, rfl⟩
instance Try.agg53 : Agg Try.prog 53 2 := agg_of Try.underlying53 rfl (by kernel_rfl)
instance Try.fld53_0 : FieldOff Try.prog 53 0 0 := field_of (m := 1) Try.underlying53 (by kernel_rfl) rfl
instance Try.fld53_1 : FieldOff Try.prog 53 1 1 := field_of (m := 1) Try.underlying53 (by kernel_rfl) rfl
instance Try.zero53 : Zero Try.prog 53 [.int .i64 0, .int .i64 0] := ⟨.agg #[.int .i64 0, .int .i64 0], fun _ => by kernel_rfl, rfl⟩
instance Try.uty56 : UTy Try.prog 56 (.slice 100) := ⟨Try.underlying56⟩
instance Try.sca56 : Scalar Try.prog 56 := scalar_of Try.underlying56 rfl (by kernel_rfl)
theorem Try.erow56 : (Try.prog.info? 100).map (fun i => (i.zero, i.size, i.bytes)) = some (some (.agg #[.int .i64 0, .int .i64 0, .int .i64 0, .int .i64 0]), 4, 32) := by kernel_rfl
instance Try.elem56 : Elem Try.prog 56 100 4 32 := elem_of Try.underlying56 Try.erow56 rfl
instance Try.zero56 : Zero Try.prog 56 [.slice none 0 0] := ⟨.slice none 0 0, fun _ => by kernel_rfl, rfl⟩
instance Try.uty59 : UTy Try.prog 59 (.int .i64) := ⟨Try.underlying59⟩
instance Try.sca59 : Scalar Try.prog 59 := scalar_of Try.underlying59 rfl (by kernel_rfl)
instance Try.zero59 : Zero Try.prog 59 [.int .i64 0] := ⟨.int .i64 0, fun _ => by kernel_rfl, rfl⟩
instance Try.agg63 : Agg Try.prog 63 8 := agg_of Try.underlying63 rfl (by kernel_rfl)
instance Try.fld63_0 : FieldOff Try.prog 63 0 0 := field_of (m := 1) Try.underlying63 (by kernel_rfl) rfl
instance Try.fld63_1 : FieldOff Try.prog 63 1 1 := field_of (m := 1) Try.underlying63 (by kernel_rfl) rfl
instance Try.fld63_2 : FieldOff Try.prog 63 2 2 := field_of (m := 1) Try.underlying63 (by kernel_rfl) rfl
instance Try.fld63_3 : FieldOff Try.prog 63 3 3 := field_of (m := 1) Try.underlying63 (by kernel_rfl) rfl
instance Try.fld63_4 : FieldOff Try.prog 63 4 4 := field_of (m := 1) Try.underlying63 (by kernel_rfl) rfl
instance Try.fld63_5 : FieldOff Try.prog 63 5 5 := field_of (m := 1) Try.underlying63 (by kernel_rfl) rfl
instance Try.fld63_6 : FieldOff Try.prog 63 6 6 := field_of (m := 1) Try.underlying63 (by kernel_rfl) rfl
instance Try.fld63_7 : FieldOff Try.prog 63 7 7 := field_of (m := 1) Try.underlying63 (by kernel_rfl) rfl
instance Try.zero63 : Zero Try.prog 63 [.int .i64 0, .int .i64 0, .int .u32 0, .int .u32 0, .int .i64 0, .int .i64 0, .int .i64 0, .int .i64 0] := ⟨.agg #[.int .i64 0, .int .i64 0, .int .u32 0, .int .u32 0, .int .i64 0, .int .i64 0, .int .i64 0, .int .i64 0], fun _ => by kernel_rfl, rfl⟩
instance Try.agg64 : Agg Try.prog 64 8 := agg_of Try.underlying64 rfl (by kernel_rfl)
instance Try.fld64_0 : FieldOff Try.prog 64 0 0 := field_of (m := 1) Try.underlying64 (by kernel_rfl) rfl
instance Try.fld64_1 : FieldOff Try.prog 64 1 1 := field_of (m := 1) Try.underlying64 (by kernel_rfl) rfl
instance Try.fld64_2 : FieldOff Try.prog 64 2 2 := field_of (m := 1) Try.underlying64 (by kernel_rfl) rfl
instance Try.fld64_3 : FieldOff Try.prog 64 3 3 := field_of (m := 1) Try.underlying64 (by kernel_rfl) rfl
instance Try.fld64_4 : FieldOff Try.prog 64 4 4 := field_of (m := 1) Try.underlying64 (by kernel_rfl) rfl
instance Try.fld64_5 : FieldOff Try.prog 64 5 5 := field_of (m := 1) Try.underlying64 (by kernel_rfl) rfl
instance Try.fld64_6 : FieldOff Try.prog 64 6 6 := field_of (m := 1) Try.underlying64 (by kernel_rfl) rfl
instance Try.fld64_7 : FieldOff Try.prog 64 7 7 := field_of (m := 1) Try.underlying64 (by kernel_rfl) rfl
instance Try.zero64 : Zero Try.prog 64 [.int .i64 0, .int .i64 0, .int .u32 0, .int .u32 0, .int .i64 0, .int .i64 0, .int .i64 0, .int .i64 0] := ⟨.agg #[.int .i64 0, .int .i64 0, .int .u32 0, .int .u32 0, .int .i64 0, .int .i64 0, .int .i64 0, .int .i64 0], fun _ => by kernel_rfl, rfl⟩
instance Try.uty79 : UTy Try.prog 79 (.pointer 113) := ⟨Try.underlying79⟩
instance Try.sca79 : Scalar Try.prog 79 := scalar_of Try.underlying79 rfl (by kernel_rfl)
instance Try.zero79 : Zero Try.prog 79 [.pointer none] := ⟨.pointer none, fun _ => by kernel_rfl, rfl⟩
instance Try.uty80 : UTy Try.prog 80 (.slice 64) := ⟨Try.underlying80⟩
instance Try.sca80 : Scalar Try.prog 80 := scalar_of Try.underlying80 rfl (by kernel_rfl)
theorem Try.erow80 : (Try.prog.info? 64).map (fun i => (i.zero, i.size, i.bytes)) = some (some (.agg #[.int .i64 0, .int .i64 0, .int .u32 0, .int .u32 0, .int .i64 0, .int .i64 0, .int .i64 0, .int .i64 0]), 8, 56) := by kernel_rfl
instance Try.elem80 : Elem Try.prog 80 64 8 56 := elem_of Try.underlying80 Try.erow80 rfl
instance Try.zero80 : Zero Try.prog 80 [.slice none 0 0] := ⟨.slice none 0 0, fun _ => by kernel_rfl, rfl⟩
instance Try.uty81 : UTy Try.prog 81 (.slice 3) := ⟨Try.underlying81⟩
instance Try.sca81 : Scalar Try.prog 81 := scalar_of Try.underlying81 rfl (by kernel_rfl)
theorem Try.erow81 : (Try.prog.info? 3).map (fun i => (i.zero, i.size, i.bytes)) = some (some (.int .i64 0), 1, 8) := by kernel_rfl
instance Try.elem81 : Elem Try.prog 81 3 1 8 := elem_of Try.underlying81 Try.erow81 rfl
instance Try.zero81 : Zero Try.prog 81 [.slice none 0 0] := ⟨.slice none 0 0, fun _ => by kernel_rfl, rfl⟩
instance Try.agg82 : Agg Try.prog 82 4 := agg_of Try.underlying82 rfl (by kernel_rfl)
instance Try.fld82_0 : FieldOff Try.prog 82 0 0 := field_of (m := 1) Try.underlying82 (by kernel_rfl) rfl
instance Try.fld82_1 : FieldOff Try.prog 82 1 1 := field_of (m := 1) Try.underlying82 (by kernel_rfl) rfl
instance Try.fld82_2 : FieldOff Try.prog 82 2 2 := field_of (m := 1) Try.underlying82 (by kernel_rfl) rfl
instance Try.fld82_3 : FieldOff Try.prog 82 3 3 := field_of (m := 1) Try.underlying82 (by kernel_rfl) rfl
instance Try.zero82 : Zero Try.prog 82 [.pointer none, .slice none 0 0, .slice none 0 0, .int .u64 0] := ⟨.agg #[.pointer none, .slice none 0 0, .slice none 0 0, .int .u64 0], fun _ => by kernel_rfl, rfl⟩
instance Try.agg83 : Agg Try.prog 83 4 := agg_of Try.underlying83 rfl (by kernel_rfl)
instance Try.fld83_0 : FieldOff Try.prog 83 0 0 := field_of (m := 1) Try.underlying83 (by kernel_rfl) rfl
instance Try.fld83_1 : FieldOff Try.prog 83 1 1 := field_of (m := 1) Try.underlying83 (by kernel_rfl) rfl
instance Try.fld83_2 : FieldOff Try.prog 83 2 2 := field_of (m := 1) Try.underlying83 (by kernel_rfl) rfl
instance Try.fld83_3 : FieldOff Try.prog 83 3 3 := field_of (m := 1) Try.underlying83 (by kernel_rfl) rfl
instance Try.zero83 : Zero Try.prog 83 [.pointer none, .slice none 0 0, .slice none 0 0, .int .u64 0] := ⟨.agg #[.pointer none, .slice none 0 0, .slice none 0 0, .int .u64 0], fun _ => by kernel_rfl, rfl⟩
instance Try.agg94 : Agg Try.prog 94 11 := agg_of Try.underlying94 rfl (by kernel_rfl)
instance Try.fld94_0 : FieldOff Try.prog 94 0 0 := field_of (m := 1) Try.underlying94 (by kernel_rfl) rfl
instance Try.fld94_1 : FieldOff Try.prog 94 1 1 := field_of (m := 1) Try.underlying94 (by kernel_rfl) rfl
instance Try.fld94_2 : FieldOff Try.prog 94 2 2 := field_of (m := 1) Try.underlying94 (by kernel_rfl) rfl
instance Try.fld94_3 : FieldOff Try.prog 94 3 3 := field_of (m := 8) Try.underlying94 (by kernel_rfl) rfl
instance Try.zero94 : Zero Try.prog 94 [.bool false, .int .i64 0, .int .u32 0, .int .i64 0, .int .i64 0, .int .u32 0, .int .u32 0, .int .i64 0, .int .i64 0, .int .i64 0, .int .i64 0] := ⟨.agg #[.bool false, .int .i64 0, .int .u32 0, .int .i64 0, .int .i64 0, .int .u32 0, .int .u32 0, .int .i64 0, .int .i64 0, .int .i64 0, .int .i64 0], fun _ => by kernel_rfl, rfl⟩
instance Try.agg95 : Agg Try.prog 95 11 := agg_of Try.underlying95 rfl (by kernel_rfl)
instance Try.fld95_0 : FieldOff Try.prog 95 0 0 := field_of (m := 1) Try.underlying95 (by kernel_rfl) rfl
instance Try.fld95_1 : FieldOff Try.prog 95 1 1 := field_of (m := 1) Try.underlying95 (by kernel_rfl) rfl
instance Try.fld95_2 : FieldOff Try.prog 95 2 2 := field_of (m := 1) Try.underlying95 (by kernel_rfl) rfl
instance Try.fld95_3 : FieldOff Try.prog 95 3 3 := field_of (m := 8) Try.underlying95 (by kernel_rfl) rfl
instance Try.zero95 : Zero Try.prog 95 [.bool false, .int .i64 0, .int .u32 0, .int .i64 0, .int .i64 0, .int .u32 0, .int .u32 0, .int .i64 0, .int .i64 0, .int .i64 0, .int .i64 0] := ⟨.agg #[.bool false, .int .i64 0, .int .u32 0, .int .i64 0, .int .i64 0, .int .u32 0, .int .u32 0, .int .i64 0, .int .i64 0, .int .i64 0, .int .i64 0], fun _ => by kernel_rfl, rfl⟩
instance Try.agg99 : Agg Try.prog 99 4 := agg_of Try.underlying99 rfl (by kernel_rfl)
instance Try.fld99_0 : FieldOff Try.prog 99 0 0 := field_of (m := 2) Try.underlying99 (by kernel_rfl) rfl
instance Try.fld99_1 : FieldOff Try.prog 99 1 2 := field_of (m := 1) Try.underlying99 (by kernel_rfl) rfl
instance Try.fld99_2 : FieldOff Try.prog 99 2 3 := field_of (m := 1) Try.underlying99 (by kernel_rfl) rfl
instance Try.zero99 : Zero Try.prog 99 [.int .i64 0, .int .i64 0, .int .i64 0, .int .i64 0] := ⟨.agg #[.int .i64 0, .int .i64 0, .int .i64 0, .int .i64 0], fun _ => by kernel_rfl, rfl⟩
instance Try.agg100 : Agg Try.prog 100 4 := agg_of Try.underlying100 rfl (by kernel_rfl)
instance Try.fld100_0 : FieldOff Try.prog 100 0 0 := field_of (m := 2) Try.underlying100 (by kernel_rfl) rfl
instance Try.fld100_1 : FieldOff Try.prog 100 1 2 := field_of (m := 1) Try.underlying100 (by kernel_rfl) rfl
instance Try.fld100_2 : FieldOff Try.prog 100 2 3 := field_of (m := 1) Try.underlying100 (by kernel_rfl) rfl
instance Try.zero100 : Zero Try.prog 100 [.int .i64 0, .int .i64 0, .int .i64 0, .int .i64 0] := ⟨.agg #[.int .i64 0, .int .i64 0, .int .i64 0, .int .i64 0], fun _ => by kernel_rfl, rfl⟩
instance Try.uty109 : UTy Try.prog 109 (.array 81 3) := ⟨Try.underlying109⟩
instance Try.agg109 : Agg Try.prog 109 81 := agg_of Try.underlying109 rfl (by kernel_rfl)
instance Try.uty111 : UTy Try.prog 111 (.slice 4) := ⟨Try.underlying111⟩
instance Try.sca111 : Scalar Try.prog 111 := scalar_of Try.underlying111 rfl (by kernel_rfl)
theorem Try.erow111 : (Try.prog.info? 4).map (fun i => (i.zero, i.size, i.bytes)) = some (some (.bool false), 1, 1) := by kernel_rfl
instance Try.elem111 : Elem Try.prog 111 4 1 1 := elem_of Try.underlying111 Try.erow111 rfl
instance Try.zero111 : Zero Try.prog 111 [.slice none 0 0] := ⟨.slice none 0 0, fun _ => by kernel_rfl, rfl⟩
instance Try.agg112 : Agg Try.prog 112 4 := agg_of Try.underlying112 rfl (by kernel_rfl)
instance Try.fld112_0 : FieldOff Try.prog 112 0 0 := field_of (m := 1) Try.underlying112 (by kernel_rfl) rfl
instance Try.fld112_1 : FieldOff Try.prog 112 1 1 := field_of (m := 1) Try.underlying112 (by kernel_rfl) rfl
instance Try.fld112_2 : FieldOff Try.prog 112 2 2 := field_of (m := 1) Try.underlying112 (by kernel_rfl) rfl
instance Try.fld112_3 : FieldOff Try.prog 112 3 3 := field_of (m := 1) Try.underlying112 (by kernel_rfl) rfl
instance Try.zero112 : Zero Try.prog 112 [.slice none 0 0, .slice none 0 0, .slice none 0 0, .int .u32 0] := ⟨.agg #[.slice none 0 0, .slice none 0 0, .slice none 0 0, .int .u32 0], fun _ => by kernel_rfl, rfl⟩
instance Try.agg113 : Agg Try.prog 113 4 := agg_of Try.underlying113 rfl (by kernel_rfl)
instance Try.fld113_0 : FieldOff Try.prog 113 0 0 := field_of (m := 1) Try.underlying113 (by kernel_rfl) rfl
instance Try.fld113_1 : FieldOff Try.prog 113 1 1 := field_of (m := 1) Try.underlying113 (by kernel_rfl) rfl
instance Try.fld113_2 : FieldOff Try.prog 113 2 2 := field_of (m := 1) Try.underlying113 (by kernel_rfl) rfl
instance Try.fld113_3 : FieldOff Try.prog 113 3 3 := field_of (m := 1) Try.underlying113 (by kernel_rfl) rfl
instance Try.zero113 : Zero Try.prog 113 [.slice none 0 0, .slice none 0 0, .slice none 0 0, .int .u32 0] := ⟨.agg #[.slice none 0 0, .slice none 0 0, .slice none 0 0, .int .u32 0], fun _ => by kernel_rfl, rfl⟩
instance Try.uty114 : UTy Try.prog 114 (.array 2 32) := ⟨Try.underlying114⟩
instance Try.agg114 : Agg Try.prog 114 2 := agg_of Try.underlying114 rfl (by kernel_rfl)
instance Try.zero114 : Zero Try.prog 114 [.int .u32 0, .int .u32 0] := ⟨.agg #[.int .u32 0, .int .u32 0], fun _ => by kernel_rfl, rfl⟩
instance Try.uty115 : UTy Try.prog 115 (.pointer 64) := ⟨Try.underlying115⟩
instance Try.sca115 : Scalar Try.prog 115 := scalar_of Try.underlying115 rfl (by kernel_rfl)
instance Try.zero115 : Zero Try.prog 115 [.pointer none] := ⟨.pointer none, fun _ => by kernel_rfl, rfl⟩
instance Try.uty120 : UTy Try.prog 120 (.slice 128) := ⟨Try.underlying120⟩
instance Try.sca120 : Scalar Try.prog 120 := scalar_of Try.underlying120 rfl (by kernel_rfl)
theorem Try.erow120 : (Try.prog.info? 128).map (fun i => (i.zero, i.size, i.bytes)) = some (some (.agg #[.int .i64 0, .int .u32 0, .int .i64 0, .int .i64 0]), 4, 32) := by kernel_rfl
instance Try.elem120 : Elem Try.prog 120 128 4 32 := elem_of Try.underlying120 Try.erow120 rfl
instance Try.zero120 : Zero Try.prog 120 [.slice none 0 0] := ⟨.slice none 0 0, fun _ => by kernel_rfl, rfl⟩
instance Try.agg127 : Agg Try.prog 127 4 := agg_of Try.underlying127 rfl (by kernel_rfl)
instance Try.fld127_0 : FieldOff Try.prog 127 0 0 := field_of (m := 1) Try.underlying127 (by kernel_rfl) rfl
instance Try.fld127_1 : FieldOff Try.prog 127 1 1 := field_of (m := 1) Try.underlying127 (by kernel_rfl) rfl
instance Try.fld127_2 : FieldOff Try.prog 127 2 2 := field_of (m := 1) Try.underlying127 (by kernel_rfl) rfl
instance Try.fld127_3 : FieldOff Try.prog 127 3 3 := field_of (m := 1) Try.underlying127 (by kernel_rfl) rfl
instance Try.zero127 : Zero Try.prog 127 [.int .i64 0, .int .u32 0, .int .i64 0, .int .i64 0] := ⟨.agg #[.int .i64 0, .int .u32 0, .int .i64 0, .int .i64 0], fun _ => by kernel_rfl, rfl⟩
instance Try.agg128 : Agg Try.prog 128 4 := agg_of Try.underlying128 rfl (by kernel_rfl)
instance Try.fld128_0 : FieldOff Try.prog 128 0 0 := field_of (m := 1) Try.underlying128 (by kernel_rfl) rfl
instance Try.fld128_1 : FieldOff Try.prog 128 1 1 := field_of (m := 1) Try.underlying128 (by kernel_rfl) rfl
instance Try.fld128_2 : FieldOff Try.prog 128 2 2 := field_of (m := 1) Try.underlying128 (by kernel_rfl) rfl
instance Try.fld128_3 : FieldOff Try.prog 128 3 3 := field_of (m := 1) Try.underlying128 (by kernel_rfl) rfl
instance Try.zero128 : Zero Try.prog 128 [.int .i64 0, .int .u32 0, .int .i64 0, .int .i64 0] := ⟨.agg #[.int .i64 0, .int .u32 0, .int .i64 0, .int .i64 0], fun _ => by kernel_rfl, rfl⟩
instance Try.uty133 : UTy Try.prog 133 (.array 0 16) := ⟨Try.underlying133⟩
instance Try.zero133 : Zero Try.prog 133 [] := ⟨.agg #[], fun _ => by kernel_rfl, rfl⟩
instance Try.uty139 : UTy Try.prog 139 (.pointer 5) := ⟨Try.underlying139⟩
instance Try.sca139 : Scalar Try.prog 139 := scalar_of Try.underlying139 rfl (by kernel_rfl)
instance Try.zero139 : Zero Try.prog 139 [.pointer none] := ⟨.pointer none, fun _ => by kernel_rfl, rfl⟩
instance Try.agg142 : Agg Try.prog 142 11 := agg_of Try.underlying142 rfl (by kernel_rfl)
instance Try.fld142_0 : FieldOff Try.prog 142 0 0 := field_of (m := 1) Try.underlying142 (by kernel_rfl) rfl
instance Try.fld142_1 : FieldOff Try.prog 142 1 1 := field_of (m := 1) Try.underlying142 (by kernel_rfl) rfl
instance Try.fld142_2 : FieldOff Try.prog 142 2 2 := field_of (m := 1) Try.underlying142 (by kernel_rfl) rfl
instance Try.fld142_3 : FieldOff Try.prog 142 3 3 := field_of (m := 1) Try.underlying142 (by kernel_rfl) rfl
instance Try.fld142_4 : FieldOff Try.prog 142 4 4 := field_of (m := 1) Try.underlying142 (by kernel_rfl) rfl
instance Try.fld142_5 : FieldOff Try.prog 142 5 5 := field_of (m := 1) Try.underlying142 (by kernel_rfl) rfl
instance Try.fld142_6 : FieldOff Try.prog 142 6 6 := field_of (m := 1) Try.underlying142 (by kernel_rfl) rfl
instance Try.fld142_7 : FieldOff Try.prog 142 7 7 := field_of (m := 1) Try.underlying142 (by kernel_rfl) rfl
instance Try.fld142_8 : FieldOff Try.prog 142 8 8 := field_of (m := 1) Try.underlying142 (by kernel_rfl) rfl
instance Try.fld142_9 : FieldOff Try.prog 142 9 9 := field_of (m := 1) Try.underlying142 (by kernel_rfl) rfl
instance Try.fld142_10 : FieldOff Try.prog 142 10 10 := field_of (m := 1) Try.underlying142 (by kernel_rfl) rfl
instance Try.zero142 : Zero Try.prog 142 [.int .u64 0, .int .u64 0, .int .u32 0, .int .u8 0, .int .u8 0, .int .u8 0, .int .u8 0, .nilFunc, .pointer none, .int .i32 0, .int .i32 0] := ⟨.agg #[.int .u64 0, .int .u64 0, .int .u32 0, .int .u8 0, .int .u8 0, .int .u8 0, .int .u8 0, .nilFunc, .pointer none, .int .i32 0, .int .i32 0], fun _ => by kernel_rfl, rfl⟩
instance Try.part2 : PartT Try.prog 2 none := part_scalar inferInstance
instance Try.eqp2 : EqP Try.prog 2 [true] 1 := eqp_int Try.underlying2 inferInstance
instance Try.part3 : PartT Try.prog 3 none := part_scalar inferInstance
instance Try.eqp3 : EqP Try.prog 3 [true] 1 := eqp_int Try.underlying3 inferInstance
instance Try.part4 : PartT Try.prog 4 none := part_scalar inferInstance
instance Try.eqp4 : EqP Try.prog 4 [false] 1 := eqp_bool Try.underlying4 inferInstance
instance Try.part5 : PartT Try.prog 5 none := part_scalar inferInstance
instance Try.eqp5 : EqP Try.prog 5 [true] 1 := eqp_int Try.underlying5 inferInstance
instance Try.part9 : PartT Try.prog 9 none := part_scalar inferInstance
instance Try.part12 : PartT Try.prog 12 none := part_scalar inferInstance
instance Try.eqp12 : EqP Try.prog 12 [true] 1 := eqp_int Try.underlying12 inferInstance
instance Try.part15 : PartT Try.prog 15 none := part_scalar inferInstance
instance Try.part16 : PartT Try.prog 16 none := part_scalar inferInstance
instance Try.part17 : PartT Try.prog 17 none := part_scalar inferInstance
instance Try.part21 : PartT Try.prog 21 none := part_scalar inferInstance
instance Try.eqp21 : EqP Try.prog 21 [true] 1 := eqp_int Try.underlying21 inferInstance
instance Try.part22 : PartT Try.prog 22 (some 4) := part_agg inferInstance rfl
instance Try.bld22 : Bld Try.prog 22 [[.int .i64 0], [.int .i64 0], [.int .i64 0], [.int .i64 0]] := bld_struct Try.underlying22 (z := .agg #[.int .i64 0, .int .i64 0, .int .i64 0, .int .i64 0]) (fun _ => by kernel_rfl) rfl (by kernel_rfl) rfl
instance Try.fv22_0 : FieldV Try.prog 22 0 3 0 := fieldV_of Try.underlying22 (by kernel_rfl)
instance Try.fv22_1 : FieldV Try.prog 22 1 2 1 := fieldV_of Try.underlying22 (by kernel_rfl)
instance Try.fv22_2 : FieldV Try.prog 22 2 2 2 := fieldV_of Try.underlying22 (by kernel_rfl)
instance Try.fv22_3 : FieldV Try.prog 22 3 2 3 := fieldV_of Try.underlying22 (by kernel_rfl)
instance Try.eqp22 : EqP Try.prog 22 [true, true, true, true] 2 := eqp_struct Try.underlying22 inferInstance rfl rfl (by kernel_rfl) ⟨by decide, rfl, [true], [true, true, true], 1, inferInstance, by decide, rfl, ⟨by decide, rfl, [true], [true, true], 1, inferInstance, by decide, rfl, ⟨by decide, rfl, [true], [true], 1, inferInstance, by decide, rfl, ⟨by decide, rfl, [true], [], 1, inferInstance, by decide, rfl, rfl⟩⟩⟩⟩
instance Try.eqg22 : EqG Try.prog 22 := ⟨by kernel_rfl⟩
instance Try.part23 : PartT Try.prog 23 (some 4) := part_agg inferInstance rfl
instance Try.bld23 : Bld Try.prog 23 [[.int .i64 0], [.int .i64 0], [.int .i64 0], [.int .i64 0]] := bld_struct Try.underlying23 (z := .agg #[.int .i64 0, .int .i64 0, .int .i64 0, .int .i64 0]) (fun _ => by kernel_rfl) rfl (by kernel_rfl) rfl
instance Try.fv23_0 : FieldV Try.prog 23 0 3 0 := fieldV_of Try.underlying23 (by kernel_rfl)
instance Try.fv23_1 : FieldV Try.prog 23 1 2 1 := fieldV_of Try.underlying23 (by kernel_rfl)
instance Try.fv23_2 : FieldV Try.prog 23 2 2 2 := fieldV_of Try.underlying23 (by kernel_rfl)
instance Try.fv23_3 : FieldV Try.prog 23 3 2 3 := fieldV_of Try.underlying23 (by kernel_rfl)
instance Try.eqp23 : EqP Try.prog 23 [true, true, true, true] 2 := eqp_struct Try.underlying23 inferInstance rfl rfl (by kernel_rfl) ⟨by decide, rfl, [true], [true, true, true], 1, inferInstance, by decide, rfl, ⟨by decide, rfl, [true], [true, true], 1, inferInstance, by decide, rfl, ⟨by decide, rfl, [true], [true], 1, inferInstance, by decide, rfl, ⟨by decide, rfl, [true], [], 1, inferInstance, by decide, rfl, rfl⟩⟩⟩⟩
instance Try.eqg23 : EqG Try.prog 23 := ⟨by kernel_rfl⟩
instance Try.part28 : PartT Try.prog 28 none := part_scalar inferInstance
instance Try.part29 : PartT Try.prog 29 none := part_scalar inferInstance
instance Try.eqp29 : EqP Try.prog 29 [true] 1 := eqp_int Try.underlying29 inferInstance
instance Try.part31 : PartT Try.prog 31 none := part_scalar inferInstance
instance Try.part32 : PartT Try.prog 32 none := part_scalar inferInstance
instance Try.eqp32 : EqP Try.prog 32 [true] 1 := eqp_int Try.underlying32 inferInstance
instance Try.part46 : PartT Try.prog 46 none := part_scalar inferInstance
instance Try.part47 : PartT Try.prog 47 none := part_scalar inferInstance
instance Try.part48 : PartT Try.prog 48 (some 2) := part_agg inferInstance rfl
instance Try.bld48 : Bld Try.prog 48 [[.slice none 0 0], [.slice none 0 0]] := bld_struct Try.underlying48 (z := .agg #[.slice none 0 0, .slice none 0 0]) (fun _ => by kernel_rfl) rfl (by kernel_rfl) rfl
instance Try.fv48_0 : FieldV Try.prog 48 0 46 0 := fieldV_of Try.underlying48 (by kernel_rfl)
instance Try.fv48_1 : FieldV Try.prog 48 1 47 1 := fieldV_of Try.underlying48 (by kernel_rfl)
instance Try.part49 : PartT Try.prog 49 (some 2) := part_agg inferInstance rfl
instance Try.bld49 : Bld Try.prog 49 [[.slice none 0 0], [.slice none 0 0]] := bld_struct Try.underlying49 (z := .agg #[.slice none 0 0, .slice none 0 0]) (fun _ => by kernel_rfl) rfl (by kernel_rfl) rfl
instance Try.fv49_0 : FieldV Try.prog 49 0 46 0 := fieldV_of Try.underlying49 (by kernel_rfl)
instance Try.fv49_1 : FieldV Try.prog 49 1 47 1 := fieldV_of Try.underlying49 (by kernel_rfl)
instance Try.part52 : PartT Try.prog 52 (some 2) := part_agg inferInstance rfl
instance Try.bld52 : Bld Try.prog 52 [[.int .i64 0], [.int .i64 0]] := bld_struct Try.underlying52 (z := .agg #[.int .i64 0, .int .i64 0]) (fun _ => by kernel_rfl) rfl (by kernel_rfl) rfl
instance Try.fv52_0 : FieldV Try.prog 52 0 2 0 := fieldV_of Try.underlying52 (by kernel_rfl)
instance Try.fv52_1 : FieldV Try.prog 52 1 2 1 := fieldV_of Try.underlying52 (by kernel_rfl)
instance Try.eqp52 : EqP Try.prog 52 [true, true] 2 := eqp_struct Try.underlying52 inferInstance rfl rfl (by kernel_rfl) ⟨by decide, rfl, [true], [true], 1, inferInstance, by decide, rfl, ⟨by decide, rfl, [true], [], 1, inferInstance, by decide, rfl, rfl⟩⟩
instance Try.eqg52 : EqG Try.prog 52 := ⟨by kernel_rfl⟩
instance Try.part53 : PartT Try.prog 53 (some 2) := part_agg inferInstance rfl
instance Try.bld53 : Bld Try.prog 53 [[.int .i64 0], [.int .i64 0]] := bld_struct Try.underlying53 (z := .agg #[.int .i64 0, .int .i64 0]) (fun _ => by kernel_rfl) rfl (by kernel_rfl) rfl
instance Try.fv53_0 : FieldV Try.prog 53 0 2 0 := fieldV_of Try.underlying53 (by kernel_rfl)
instance Try.fv53_1 : FieldV Try.prog 53 1 2 1 := fieldV_of Try.underlying53 (by kernel_rfl)
instance Try.eqp53 : EqP Try.prog 53 [true, true] 2 := eqp_struct Try.underlying53 inferInstance rfl rfl (by kernel_rfl) ⟨by decide, rfl, [true], [true], 1, inferInstance, by decide, rfl, ⟨by decide, rfl, [true], [], 1, inferInstance, by decide, rfl, rfl⟩⟩
instance Try.eqg53 : EqG Try.prog 53 := ⟨by kernel_rfl⟩
instance Try.part56 : PartT Try.prog 56 none := part_scalar inferInstance
instance Try.part59 : PartT Try.prog 59 none := part_scalar inferInstance
instance Try.eqp59 : EqP Try.prog 59 [true] 1 := eqp_int Try.underlying59 inferInstance
instance Try.part63 : PartT Try.prog 63 (some 8) := part_agg inferInstance rfl
instance Try.bld63 : Bld Try.prog 63 [[.int .i64 0], [.int .i64 0], [.int .u32 0], [.int .u32 0], [.int .i64 0], [.int .i64 0], [.int .i64 0], [.int .i64 0]] := bld_struct Try.underlying63 (z := .agg #[.int .i64 0, .int .i64 0, .int .u32 0, .int .u32 0, .int .i64 0, .int .i64 0, .int .i64 0, .int .i64 0]) (fun _ => by kernel_rfl) rfl (by kernel_rfl) rfl
instance Try.fv63_0 : FieldV Try.prog 63 0 2 0 := fieldV_of Try.underlying63 (by kernel_rfl)
instance Try.fv63_1 : FieldV Try.prog 63 1 2 1 := fieldV_of Try.underlying63 (by kernel_rfl)
instance Try.fv63_2 : FieldV Try.prog 63 2 32 2 := fieldV_of Try.underlying63 (by kernel_rfl)
instance Try.fv63_3 : FieldV Try.prog 63 3 32 3 := fieldV_of Try.underlying63 (by kernel_rfl)
instance Try.fv63_4 : FieldV Try.prog 63 4 3 4 := fieldV_of Try.underlying63 (by kernel_rfl)
instance Try.fv63_5 : FieldV Try.prog 63 5 2 5 := fieldV_of Try.underlying63 (by kernel_rfl)
instance Try.fv63_6 : FieldV Try.prog 63 6 2 6 := fieldV_of Try.underlying63 (by kernel_rfl)
instance Try.fv63_7 : FieldV Try.prog 63 7 2 7 := fieldV_of Try.underlying63 (by kernel_rfl)
instance Try.eqp63 : EqP Try.prog 63 [true, true, true, true, true, true, true, true] 2 := eqp_struct Try.underlying63 inferInstance rfl rfl (by kernel_rfl) ⟨by decide, rfl, [true], [true, true, true, true, true, true, true], 1, inferInstance, by decide, rfl, ⟨by decide, rfl, [true], [true, true, true, true, true, true], 1, inferInstance, by decide, rfl, ⟨by decide, rfl, [true], [true, true, true, true, true], 1, inferInstance, by decide, rfl, ⟨by decide, rfl, [true], [true, true, true, true], 1, inferInstance, by decide, rfl, ⟨by decide, rfl, [true], [true, true, true], 1, inferInstance, by decide, rfl, ⟨by decide, rfl, [true], [true, true], 1, inferInstance, by decide, rfl, ⟨by decide, rfl, [true], [true], 1, inferInstance, by decide, rfl, ⟨by decide, rfl, [true], [], 1, inferInstance, by decide, rfl, rfl⟩⟩⟩⟩⟩⟩⟩⟩
instance Try.eqg63 : EqG Try.prog 63 := ⟨by kernel_rfl⟩
instance Try.part64 : PartT Try.prog 64 (some 8) := part_agg inferInstance rfl
instance Try.bld64 : Bld Try.prog 64 [[.int .i64 0], [.int .i64 0], [.int .u32 0], [.int .u32 0], [.int .i64 0], [.int .i64 0], [.int .i64 0], [.int .i64 0]] := bld_struct Try.underlying64 (z := .agg #[.int .i64 0, .int .i64 0, .int .u32 0, .int .u32 0, .int .i64 0, .int .i64 0, .int .i64 0, .int .i64 0]) (fun _ => by kernel_rfl) rfl (by kernel_rfl) rfl
instance Try.fv64_0 : FieldV Try.prog 64 0 2 0 := fieldV_of Try.underlying64 (by kernel_rfl)
instance Try.fv64_1 : FieldV Try.prog 64 1 2 1 := fieldV_of Try.underlying64 (by kernel_rfl)
instance Try.fv64_2 : FieldV Try.prog 64 2 32 2 := fieldV_of Try.underlying64 (by kernel_rfl)
instance Try.fv64_3 : FieldV Try.prog 64 3 32 3 := fieldV_of Try.underlying64 (by kernel_rfl)
instance Try.fv64_4 : FieldV Try.prog 64 4 3 4 := fieldV_of Try.underlying64 (by kernel_rfl)
instance Try.fv64_5 : FieldV Try.prog 64 5 2 5 := fieldV_of Try.underlying64 (by kernel_rfl)
instance Try.fv64_6 : FieldV Try.prog 64 6 2 6 := fieldV_of Try.underlying64 (by kernel_rfl)
instance Try.fv64_7 : FieldV Try.prog 64 7 2 7 := fieldV_of Try.underlying64 (by kernel_rfl)
instance Try.eqp64 : EqP Try.prog 64 [true, true, true, true, true, true, true, true] 2 := eqp_struct Try.underlying64 inferInstance rfl rfl (by kernel_rfl) ⟨by decide, rfl, [true], [true, true, true, true, true, true, true], 1, inferInstance, by decide, rfl, ⟨by decide, rfl, [true], [true, true, true, true, true, true], 1, inferInstance, by decide, rfl, ⟨by decide, rfl, [true], [true, true, true, true, true], 1, inferInstance, by decide, rfl, ⟨by decide, rfl, [true], [true, true, true, true], 1, inferInstance, by decide, rfl, ⟨by decide, rfl, [true], [true, true, true], 1, inferInstance, by decide, rfl, ⟨by decide, rfl, [true], [true, true], 1, inferInstance, by decide, rfl, ⟨by decide, rfl, [true], [true], 1, inferInstance, by decide, rfl, ⟨by decide, rfl, [true], [], 1, inferInstance, by decide, rfl, rfl⟩⟩⟩⟩⟩⟩⟩⟩
instance Try.eqg64 : EqG Try.prog 64 := ⟨by kernel_rfl⟩
instance Try.part79 : PartT Try.prog 79 none := part_scalar inferInstance
instance Try.part80 : PartT Try.prog 80 none := part_scalar inferInstance
instance Try.part81 : PartT Try.prog 81 none := part_scalar inferInstance
instance Try.part82 : PartT Try.prog 82 (some 4) := part_agg inferInstance rfl
instance Try.bld82 : Bld Try.prog 82 [[.pointer none], [.slice none 0 0], [.slice none 0 0], [.int .u64 0]] := bld_struct Try.underlying82 (z := .agg #[.pointer none, .slice none 0 0, .slice none 0 0, .int .u64 0]) (fun _ => by kernel_rfl) rfl (by kernel_rfl) rfl
instance Try.fv82_0 : FieldV Try.prog 82 0 79 0 := fieldV_of Try.underlying82 (by kernel_rfl)
instance Try.fv82_1 : FieldV Try.prog 82 1 80 1 := fieldV_of Try.underlying82 (by kernel_rfl)
instance Try.fv82_2 : FieldV Try.prog 82 2 81 2 := fieldV_of Try.underlying82 (by kernel_rfl)
instance Try.fv82_3 : FieldV Try.prog 82 3 29 3 := fieldV_of Try.underlying82 (by kernel_rfl)
instance Try.part83 : PartT Try.prog 83 (some 4) := part_agg inferInstance rfl
instance Try.bld83 : Bld Try.prog 83 [[.pointer none], [.slice none 0 0], [.slice none 0 0], [.int .u64 0]] := bld_struct Try.underlying83 (z := .agg #[.pointer none, .slice none 0 0, .slice none 0 0, .int .u64 0]) (fun _ => by kernel_rfl) rfl (by kernel_rfl) rfl
instance Try.fv83_0 : FieldV Try.prog 83 0 79 0 := fieldV_of Try.underlying83 (by kernel_rfl)
instance Try.fv83_1 : FieldV Try.prog 83 1 80 1 := fieldV_of Try.underlying83 (by kernel_rfl)
instance Try.fv83_2 : FieldV Try.prog 83 2 81 2 := fieldV_of Try.underlying83 (by kernel_rfl)
instance Try.fv83_3 : FieldV Try.prog 83 3 29 3 := fieldV_of Try.underlying83 (by kernel_rfl)
instance Try.part94 : PartT Try.prog 94 (some 11) := part_agg inferInstance rfl
instance Try.bld94 : Bld Try.prog 94 [[.bool false], [.int .i64 0], [.int .u32 0], [.int .i64 0, .int .i64 0, .int .u32 0, .int .u32 0, .int .i64 0, .int .i64 0, .int .i64 0, .int .i64 0]] := bld_struct Try.underlying94 (z := .agg #[.bool false, .int .i64 0, .int .u32 0, .int .i64 0, .int .i64 0, .int .u32 0, .int .u32 0, .int .i64 0, .int .i64 0, .int .i64 0, .int .i64 0]) (fun _ => by kernel_rfl) rfl (by kernel_rfl) rfl
instance Try.fv94_0 : FieldV Try.prog 94 0 4 0 := fieldV_of Try.underlying94 (by kernel_rfl)
instance Try.fv94_1 : FieldV Try.prog 94 1 3 1 := fieldV_of Try.underlying94 (by kernel_rfl)
instance Try.fv94_2 : FieldV Try.prog 94 2 32 2 := fieldV_of Try.underlying94 (by kernel_rfl)
instance Try.fv94_3 : FieldV Try.prog 94 3 64 3 := fieldV_of Try.underlying94 (by kernel_rfl)
instance Try.eqp94 : EqP Try.prog 94 [false, true, true, true, true, true, true, true, true, true, true] 3 := eqp_struct Try.underlying94 inferInstance rfl rfl (by kernel_rfl) ⟨by decide, rfl, [false], [true, true, true, true, true, true, true, true, true, true], 1, inferInstance, by decide, rfl, ⟨by decide, rfl, [true], [true, true, true, true, true, true, true, true, true], 1, inferInstance, by decide, rfl, ⟨by decide, rfl, [true], [true, true, true, true, true, true, true, true], 1, inferInstance, by decide, rfl, ⟨by decide, rfl, [true, true, true, true, true, true, true, true], [], 2, inferInstance, by decide, rfl, rfl⟩⟩⟩⟩
instance Try.eqg94 : EqG Try.prog 94 := ⟨by kernel_rfl⟩
instance Try.part95 : PartT Try.prog 95 (some 11) := part_agg inferInstance rfl
instance Try.bld95 : Bld Try.prog 95 [[.bool false], [.int .i64 0], [.int .u32 0], [.int .i64 0, .int .i64 0, .int .u32 0, .int .u32 0, .int .i64 0, .int .i64 0, .int .i64 0, .int .i64 0]] := bld_struct Try.underlying95 (z := .agg #[.bool false, .int .i64 0, .int .u32 0, .int .i64 0, .int .i64 0, .int .u32 0, .int .u32 0, .int .i64 0, .int .i64 0, .int .i64 0, .int .i64 0]) (fun _ => by kernel_rfl) rfl (by kernel_rfl) rfl
instance Try.fv95_0 : FieldV Try.prog 95 0 4 0 := fieldV_of Try.underlying95 (by kernel_rfl)
instance Try.fv95_1 : FieldV Try.prog 95 1 3 1 := fieldV_of Try.underlying95 (by kernel_rfl)
instance Try.fv95_2 : FieldV Try.prog 95 2 32 2 := fieldV_of Try.underlying95 (by kernel_rfl)
instance Try.fv95_3 : FieldV Try.prog 95 3 64 3 := fieldV_of Try.underlying95 (by kernel_rfl)
instance Try.eqp95 : EqP Try.prog 95 [false, true, true, true, true, true, true, true, true, true, true] 3 := eqp_struct Try.underlying95 inferInstance rfl rfl (by kernel_rfl) ⟨by decide, rfl, [false], [true, true, true, true, true, true, true, true, true, true], 1, inferInstance, by decide, rfl, ⟨by decide, rfl, [true], [true, true, true, true, true, true, true, true, true], 1, inferInstance, by decide, rfl, ⟨by decide, rfl, [true], [true, true, true, true, true, true, true, true], 1, inferInstance, by decide, rfl, ⟨by decide, rfl, [true, true, true, true, true, true, true, true], [], 2, inferInstance, by decide, rfl, rfl⟩⟩⟩⟩
instance Try.eqg95 : EqG Try.prog 95 := ⟨by kernel_rfl⟩
instance Try.part99 : PartT Try.prog 99 (some 4) := part_agg inferInstance rfl
instance Try.bld99 : Bld Try.prog 99 [[.int .i64 0, .int .i64 0], [.int .i64 0], [.int .i64 0]] := bld_struct Try.underlying99 (z := .agg #[.int .i64 0, .int .i64 0, .int .i64 0, .int .i64 0]) (fun _ => by kernel_rfl) rfl (by kernel_rfl) rfl
instance Try.fv99_0 : FieldV Try.prog 99 0 53 0 := fieldV_of Try.underlying99 (by kernel_rfl)
instance Try.fv99_1 : FieldV Try.prog 99 1 3 2 := fieldV_of Try.underlying99 (by kernel_rfl)
instance Try.fv99_2 : FieldV Try.prog 99 2 3 3 := fieldV_of Try.underlying99 (by kernel_rfl)
instance Try.eqp99 : EqP Try.prog 99 [true, true, true, true] 3 := eqp_struct Try.underlying99 inferInstance rfl rfl (by kernel_rfl) ⟨by decide, rfl, [true, true], [true, true], 2, inferInstance, by decide, rfl, ⟨by decide, rfl, [true], [true], 1, inferInstance, by decide, rfl, ⟨by decide, rfl, [true], [], 1, inferInstance, by decide, rfl, rfl⟩⟩⟩
instance Try.eqg99 : EqG Try.prog 99 := ⟨by kernel_rfl⟩
instance Try.part100 : PartT Try.prog 100 (some 4) := part_agg inferInstance rfl
instance Try.bld100 : Bld Try.prog 100 [[.int .i64 0, .int .i64 0], [.int .i64 0], [.int .i64 0]] := bld_struct Try.underlying100 (z := .agg #[.int .i64 0, .int .i64 0, .int .i64 0, .int .i64 0]) (fun _ => by kernel_rfl) rfl (by kernel_rfl) rfl
instance Try.fv100_0 : FieldV Try.prog 100 0 53 0 := fieldV_of Try.underlying100 (by kernel_rfl)
instance Try.fv100_1 : FieldV Try.prog 100 1 3 2 := fieldV_of Try.underlying100 (by kernel_rfl)
instance Try.fv100_2 : FieldV Try.prog 100 2 3 3 := fieldV_of Try.underlying100 (by kernel_rfl)
instance Try.eqp100 : EqP Try.prog 100 [true, true, true, true] 3 := eqp_struct Try.underlying100 inferInstance rfl rfl (by kernel_rfl) ⟨by decide, rfl, [true, true], [true, true], 2, inferInstance, by decide, rfl, ⟨by decide, rfl, [true], [true], 1, inferInstance, by decide, rfl, ⟨by decide, rfl, [true], [], 1, inferInstance, by decide, rfl, rfl⟩⟩⟩
instance Try.eqg100 : EqG Try.prog 100 := ⟨by kernel_rfl⟩
instance Try.part111 : PartT Try.prog 111 none := part_scalar inferInstance
instance Try.part112 : PartT Try.prog 112 (some 4) := part_agg inferInstance rfl
instance Try.bld112 : Bld Try.prog 112 [[.slice none 0 0], [.slice none 0 0], [.slice none 0 0], [.int .u32 0]] := bld_struct Try.underlying112 (z := .agg #[.slice none 0 0, .slice none 0 0, .slice none 0 0, .int .u32 0]) (fun _ => by kernel_rfl) rfl (by kernel_rfl) rfl
instance Try.fv112_0 : FieldV Try.prog 112 0 111 0 := fieldV_of Try.underlying112 (by kernel_rfl)
instance Try.fv112_1 : FieldV Try.prog 112 1 47 1 := fieldV_of Try.underlying112 (by kernel_rfl)
instance Try.fv112_2 : FieldV Try.prog 112 2 47 2 := fieldV_of Try.underlying112 (by kernel_rfl)
instance Try.fv112_3 : FieldV Try.prog 112 3 32 3 := fieldV_of Try.underlying112 (by kernel_rfl)
instance Try.part113 : PartT Try.prog 113 (some 4) := part_agg inferInstance rfl
instance Try.bld113 : Bld Try.prog 113 [[.slice none 0 0], [.slice none 0 0], [.slice none 0 0], [.int .u32 0]] := bld_struct Try.underlying113 (z := .agg #[.slice none 0 0, .slice none 0 0, .slice none 0 0, .int .u32 0]) (fun _ => by kernel_rfl) rfl (by kernel_rfl) rfl
instance Try.fv113_0 : FieldV Try.prog 113 0 111 0 := fieldV_of Try.underlying113 (by kernel_rfl)
instance Try.fv113_1 : FieldV Try.prog 113 1 47 1 := fieldV_of Try.underlying113 (by kernel_rfl)
instance Try.fv113_2 : FieldV Try.prog 113 2 47 2 := fieldV_of Try.underlying113 (by kernel_rfl)
instance Try.fv113_3 : FieldV Try.prog 113 3 32 3 := fieldV_of Try.underlying113 (by kernel_rfl)
instance Try.part114 : PartT Try.prog 114 (some 2) := part_agg inferInstance rfl
instance Try.bld114 : Bld Try.prog 114 [[.int .u32 0], [.int .u32 0]] := bld_array (m := 1) Try.underlying114 (z := .agg #[.int .u32 0, .int .u32 0]) (fun _ => by kernel_rfl) rfl (by kernel_rfl) (by decide) rfl
instance Try.part115 : PartT Try.prog 115 none := part_scalar inferInstance
instance Try.part120 : PartT Try.prog 120 none := part_scalar inferInstance
instance Try.part127 : PartT Try.prog 127 (some 4) := part_agg inferInstance rfl
instance Try.bld127 : Bld Try.prog 127 [[.int .i64 0], [.int .u32 0], [.int .i64 0], [.int .i64 0]] := bld_struct Try.underlying127 (z := .agg #[.int .i64 0, .int .u32 0, .int .i64 0, .int .i64 0]) (fun _ => by kernel_rfl) rfl (by kernel_rfl) rfl
instance Try.fv127_0 : FieldV Try.prog 127 0 3 0 := fieldV_of Try.underlying127 (by kernel_rfl)
instance Try.fv127_1 : FieldV Try.prog 127 1 32 1 := fieldV_of Try.underlying127 (by kernel_rfl)
instance Try.fv127_2 : FieldV Try.prog 127 2 3 2 := fieldV_of Try.underlying127 (by kernel_rfl)
instance Try.fv127_3 : FieldV Try.prog 127 3 3 3 := fieldV_of Try.underlying127 (by kernel_rfl)
instance Try.eqp127 : EqP Try.prog 127 [true, true, true, true] 2 := eqp_struct Try.underlying127 inferInstance rfl rfl (by kernel_rfl) ⟨by decide, rfl, [true], [true, true, true], 1, inferInstance, by decide, rfl, ⟨by decide, rfl, [true], [true, true], 1, inferInstance, by decide, rfl, ⟨by decide, rfl, [true], [true], 1, inferInstance, by decide, rfl, ⟨by decide, rfl, [true], [], 1, inferInstance, by decide, rfl, rfl⟩⟩⟩⟩
instance Try.eqg127 : EqG Try.prog 127 := ⟨by kernel_rfl⟩
instance Try.part128 : PartT Try.prog 128 (some 4) := part_agg inferInstance rfl
instance Try.bld128 : Bld Try.prog 128 [[.int .i64 0], [.int .u32 0], [.int .i64 0], [.int .i64 0]] := bld_struct Try.underlying128 (z := .agg #[.int .i64 0, .int .u32 0, .int .i64 0, .int .i64 0]) (fun _ => by kernel_rfl) rfl (by kernel_rfl) rfl
instance Try.fv128_0 : FieldV Try.prog 128 0 3 0 := fieldV_of Try.underlying128 (by kernel_rfl)
instance Try.fv128_1 : FieldV Try.prog 128 1 32 1 := fieldV_of Try.underlying128 (by kernel_rfl)
instance Try.fv128_2 : FieldV Try.prog 128 2 3 2 := fieldV_of Try.underlying128 (by kernel_rfl)
instance Try.fv128_3 : FieldV Try.prog 128 3 3 3 := fieldV_of Try.underlying128 (by kernel_rfl)
instance Try.eqp128 : EqP Try.prog 128 [true, true, true, true] 2 := eqp_struct Try.underlying128 inferInstance rfl rfl (by kernel_rfl) ⟨by decide, rfl, [true], [true, true, true], 1, inferInstance, by decide, rfl, ⟨by decide, rfl, [true], [true, true], 1, inferInstance, by decide, rfl, ⟨by decide, rfl, [true], [true], 1, inferInstance, by decide, rfl, ⟨by decide, rfl, [true], [], 1, inferInstance, by decide, rfl, rfl⟩⟩⟩⟩
instance Try.eqg128 : EqG Try.prog 128 := ⟨by kernel_rfl⟩
instance Try.part139 : PartT Try.prog 139 none := part_scalar inferInstance
instance Try.part142 : PartT Try.prog 142 (some 11) := part_agg inferInstance rfl
instance Try.bld142 : Bld Try.prog 142 [[.int .u64 0], [.int .u64 0], [.int .u32 0], [.int .u8 0], [.int .u8 0], [.int .u8 0], [.int .u8 0], [.nilFunc], [.pointer none], [.int .i32 0], [.int .i32 0]] := bld_struct Try.underlying142 (z := .agg #[.int .u64 0, .int .u64 0, .int .u32 0, .int .u8 0, .int .u8 0, .int .u8 0, .int .u8 0, .nilFunc, .pointer none, .int .i32 0, .int .i32 0]) (fun _ => by kernel_rfl) rfl (by kernel_rfl) rfl
instance Try.fv142_0 : FieldV Try.prog 142 0 12 0 := fieldV_of Try.underlying142 (by kernel_rfl)
instance Try.fv142_1 : FieldV Try.prog 142 1 12 1 := fieldV_of Try.underlying142 (by kernel_rfl)
instance Try.fv142_2 : FieldV Try.prog 142 2 32 2 := fieldV_of Try.underlying142 (by kernel_rfl)
instance Try.fv142_3 : FieldV Try.prog 142 3 136 3 := fieldV_of Try.underlying142 (by kernel_rfl)
instance Try.fv142_4 : FieldV Try.prog 142 4 5 4 := fieldV_of Try.underlying142 (by kernel_rfl)
instance Try.fv142_5 : FieldV Try.prog 142 5 5 5 := fieldV_of Try.underlying142 (by kernel_rfl)
instance Try.fv142_6 : FieldV Try.prog 142 6 137 6 := fieldV_of Try.underlying142 (by kernel_rfl)
instance Try.fv142_7 : FieldV Try.prog 142 7 138 7 := fieldV_of Try.underlying142 (by kernel_rfl)
instance Try.fv142_8 : FieldV Try.prog 142 8 139 8 := fieldV_of Try.underlying142 (by kernel_rfl)
instance Try.fv142_9 : FieldV Try.prog 142 9 140 9 := fieldV_of Try.underlying142 (by kernel_rfl)
instance Try.fv142_10 : FieldV Try.prog 142 10 141 10 := fieldV_of Try.underlying142 (by kernel_rfl)
instance Try.ent3 : Enters Try.prog 3 := enters_of Try.func3 rfl (by kernel_rfl)
instance Try.ent4 : Enters Try.prog 4 := enters_of Try.func4 rfl (by kernel_rfl)
instance Try.ent5 : Enters Try.prog 5 := enters_of Try.func5 rfl (by kernel_rfl)
instance Try.ent6 : Enters Try.prog 6 := enters_of Try.func6 rfl (by kernel_rfl)
instance Try.ent7 : Enters Try.prog 7 := enters_of Try.func7 rfl (by kernel_rfl)
instance Try.ent8 : Enters Try.prog 8 := enters_of Try.func8 rfl (by kernel_rfl)
instance Try.ent9 : Enters Try.prog 9 := enters_of Try.func9 rfl (by kernel_rfl)
instance Try.ent10 : Enters Try.prog 10 := enters_of Try.func10 rfl (by kernel_rfl)
instance Try.ent11 : Enters Try.prog 11 := enters_of Try.func11 rfl (by kernel_rfl)
instance Try.ent12 : Enters Try.prog 12 := enters_of Try.func12 rfl (by kernel_rfl)
instance Try.ent13 : Enters Try.prog 13 := enters_of Try.func13 rfl (by kernel_rfl)
instance Try.ent14 : Enters Try.prog 14 := enters_of Try.func14 rfl (by kernel_rfl)
instance Try.ent15 : Enters Try.prog 15 := enters_of Try.func15 rfl (by kernel_rfl)
instance Try.ent16 : Enters Try.prog 16 := enters_of Try.func16 rfl (by kernel_rfl)
instance Try.ent17 : Enters Try.prog 17 := enters_of Try.func17 rfl (by kernel_rfl)
instance Try.ent18 : Enters Try.prog 18 := enters_of Try.func18 rfl (by kernel_rfl)
instance Try.ent19 : Enters Try.prog 19 := enters_of Try.func19 rfl (by kernel_rfl)
instance Try.ent20 : Enters Try.prog 20 := enters_of Try.func20 rfl (by kernel_rfl)
instance Try.ent21 : Enters Try.prog 21 := enters_of Try.func21 rfl (by kernel_rfl)
instance Try.ent22 : Enters Try.prog 22 := enters_of Try.func22 rfl (by kernel_rfl)
instance Try.ent23 : Enters Try.prog 23 := enters_of Try.func23 rfl (by kernel_rfl)
instance Try.ent24 : Enters Try.prog 24 := enters_of Try.func24 rfl (by kernel_rfl)
instance Try.ent25 : Enters Try.prog 25 := enters_of Try.func25 rfl (by kernel_rfl)
instance Try.ent26 : Enters Try.prog 26 := enters_of Try.func26 rfl (by kernel_rfl)
instance Try.ent27 : Enters Try.prog 27 := enters_of Try.func27 rfl (by kernel_rfl)
instance Try.ent28 : Enters Try.prog 28 := enters_of Try.func28 rfl (by kernel_rfl)
instance Try.ent29 : Enters Try.prog 29 := enters_of Try.func29 rfl (by kernel_rfl)
instance Try.ent30 : Enters Try.prog 30 := enters_of Try.func30 rfl (by kernel_rfl)
instance Try.ent31 : Enters Try.prog 31 := enters_of Try.func31 rfl (by kernel_rfl)
instance Try.ent32 : Enters Try.prog 32 := enters_of Try.func32 rfl (by kernel_rfl)
instance Try.ent33 : Enters Try.prog 33 := enters_of Try.func33 rfl (by kernel_rfl)
instance Try.ent34 : Enters Try.prog 34 := enters_of Try.func34 rfl (by kernel_rfl)
instance Try.ent35 : Enters Try.prog 35 := enters_of Try.func35 rfl (by kernel_rfl)
instance Try.ent36 : Enters Try.prog 36 := enters_of Try.func36 rfl (by kernel_rfl)
instance Try.ent37 : Enters Try.prog 37 := enters_of Try.func37 rfl (by kernel_rfl)
instance Try.ent38 : Enters Try.prog 38 := enters_of Try.func38 rfl (by kernel_rfl)
instance Try.ent39 : Enters Try.prog 39 := enters_of Try.func39 rfl (by kernel_rfl)
instance Try.ent40 : Enters Try.prog 40 := enters_of Try.func40 rfl (by kernel_rfl)
instance Try.ent41 : Enters Try.prog 41 := enters_of Try.func41 rfl (by kernel_rfl)
instance Try.ent42 : Enters Try.prog 42 := enters_of Try.func42 rfl (by kernel_rfl)
instance Try.ent43 : Enters Try.prog 43 := enters_of Try.func43 rfl (by kernel_rfl)
instance Try.ent44 : Enters Try.prog 44 := enters_of Try.func44 rfl (by kernel_rfl)
instance Try.ent45 : Enters Try.prog 45 := enters_of Try.func45 rfl (by kernel_rfl)
instance Try.ent46 : Enters Try.prog 46 := enters_of Try.func46 rfl (by kernel_rfl)
instance Try.ent47 : Enters Try.prog 47 := enters_of Try.func47 rfl (by kernel_rfl)
instance Try.ent48 : Enters Try.prog 48 := enters_of Try.func48 rfl (by kernel_rfl)
instance Try.ent49 : Enters Try.prog 49 := enters_of Try.func49 rfl (by kernel_rfl)
instance Try.ent50 : Enters Try.prog 50 := enters_of Try.func50 rfl (by kernel_rfl)
instance Try.ent51 : Enters Try.prog 51 := enters_of Try.func51 rfl (by kernel_rfl)
instance Try.ent52 : Enters Try.prog 52 := enters_of Try.func52 rfl (by kernel_rfl)
instance Try.ent53 : Enters Try.prog 53 := enters_of Try.func53 rfl (by kernel_rfl)
instance Try.ent54 : Enters Try.prog 54 := enters_of Try.func54 rfl (by kernel_rfl)
instance Try.ent55 : Enters Try.prog 55 := enters_of Try.func55 rfl (by kernel_rfl)
instance Try.ent56 : Enters Try.prog 56 := enters_of Try.func56 rfl (by kernel_rfl)
instance Try.ent57 : Enters Try.prog 57 := enters_of Try.func57 rfl (by kernel_rfl)
instance Try.ent58 : Enters Try.prog 58 := enters_of Try.func58 rfl (by kernel_rfl)
instance Try.ent59 : Enters Try.prog 59 := enters_of Try.func59 rfl (by kernel_rfl)
instance Try.ent60 : Enters Try.prog 60 := enters_of Try.func60 rfl (by kernel_rfl)
instance Try.ent61 : Enters Try.prog 61 := enters_of Try.func61 rfl (by kernel_rfl)
instance Try.ent62 : Enters Try.prog 62 := enters_of Try.func62 rfl (by kernel_rfl)
instance Try.ent63 : Enters Try.prog 63 := enters_of Try.func63 rfl (by kernel_rfl)
instance Try.ent64 : Enters Try.prog 64 := enters_of Try.func64 rfl (by kernel_rfl)
instance Try.ent65 : Enters Try.prog 65 := enters_of Try.func65 rfl (by kernel_rfl)
instance Try.ent66 : Enters Try.prog 66 := enters_of Try.func66 rfl (by kernel_rfl)
instance Try.ent67 : Enters Try.prog 67 := enters_of Try.func67 rfl (by kernel_rfl)
instance Try.ent68 : Enters Try.prog 68 := enters_of Try.func68 rfl (by kernel_rfl)
instance Try.ent69 : Enters Try.prog 69 := enters_of Try.func69 rfl (by kernel_rfl)
instance Try.ent70 : Enters Try.prog 70 := enters_of Try.func70 rfl (by kernel_rfl)
instance Try.ent71 : Enters Try.prog 71 := enters_of Try.func71 rfl (by kernel_rfl)
instance Try.ent72 : Enters Try.prog 72 := enters_of Try.func72 rfl (by kernel_rfl)
instance Try.ent73 : Enters Try.prog 73 := enters_of Try.func73 rfl (by kernel_rfl)
instance Try.ent74 : Enters Try.prog 74 := enters_of Try.func74 rfl (by kernel_rfl)
instance Try.ent75 : Enters Try.prog 75 := enters_of Try.func75 rfl (by kernel_rfl)
instance Try.ent76 : Enters Try.prog 76 := enters_of Try.func76 rfl (by kernel_rfl)
instance Try.ent77 : Enters Try.prog 77 := enters_of Try.func77 rfl (by kernel_rfl)
instance Try.ent78 : Enters Try.prog 78 := enters_of Try.func78 rfl (by kernel_rfl)
instance Try.ent79 : Enters Try.prog 79 := enters_of Try.func79 rfl (by kernel_rfl)
instance Try.ent80 : Enters Try.prog 80 := enters_of Try.func80 rfl (by kernel_rfl)
instance Try.ent81 : Enters Try.prog 81 := enters_of Try.func81 rfl (by kernel_rfl)
instance Try.ent82 : Enters Try.prog 82 := enters_of Try.func82 rfl (by kernel_rfl)
instance Try.ent83 : Enters Try.prog 83 := enters_of Try.func83 rfl (by kernel_rfl)
instance Try.ent84 : Enters Try.prog 84 := enters_of Try.func84 rfl (by kernel_rfl)
instance Try.ent85 : Enters Try.prog 85 := enters_of Try.func85 rfl (by kernel_rfl)
instance Try.ent86 : Enters Try.prog 86 := enters_of Try.func86 rfl (by kernel_rfl)
end Go.Proofs
