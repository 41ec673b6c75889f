/-
  Facts on the types and functions of the translation that the walks use: sizes, places of fields, zero values; that a call enters the function. Written by a program (wip/gen.py).
-/
import Derived.Test.YtfaeboamjfdjlaaVc
import Derived.Test.YtfaeboamjfdjlaaChecked
namespace Go.Proofs
open Go.Vc
theorem Try.follows : Try.prog.follows .mixedOrders = true := by kernel_rfl
instance Try.uty2 : UTy Try.prog 2 (.int .i64) := ⟨Try.underlying2⟩
instance Try.sca2 : Scalar Try.prog 2 := scalar_of Try.underlying2 rfl (by kernel_rfl)
instance Try.zero2 : Zero Try.prog 2 [.int .i64 0] := ⟨.int .i64 0, fun _ => by kernel_rfl, rfl⟩
instance Try.uty3 : UTy Try.prog 3 (.int .i64) := ⟨Try.underlying3⟩
instance Try.sca3 : Scalar Try.prog 3 := scalar_of Try.underlying3 rfl (by kernel_rfl)
instance Try.zero3 : Zero Try.prog 3 [.int .i64 0] := ⟨.int .i64 0, fun _ => by kernel_rfl, rfl⟩
instance Try.uty4 : UTy Try.prog 4 .bool := ⟨Try.underlying4⟩
instance Try.sca4 : Scalar Try.prog 4 := scalar_of Try.underlying4 rfl (by kernel_rfl)
instance Try.zero4 : Zero Try.prog 4 [.bool false] := ⟨.bool false, fun _ => by kernel_rfl, rfl⟩
instance Try.uty5 : UTy Try.prog 5 (.int .u8) := ⟨Try.underlying5⟩
instance Try.sca5 : Scalar Try.prog 5 := scalar_of Try.underlying5 rfl (by kernel_rfl)
instance Try.zero5 : Zero Try.prog 5 [.int .u8 0] := ⟨.int .u8 0, fun _ => by kernel_rfl, rfl⟩
instance Try.uty9 : UTy Try.prog 9 .string := ⟨Try.underlying9⟩
instance Try.sca9 : Scalar Try.prog 9 := scalar_of Try.underlying9 rfl (by kernel_rfl)
instance Try.zero9 : Zero Try.prog 9 [.string .empty] := ⟨.string .empty, fun _ => by kernel_rfl, rfl⟩
instance Try.uty12 : UTy Try.prog 12 (.int .u64) := ⟨Try.underlying12⟩
instance Try.sca12 : Scalar Try.prog 12 := scalar_of Try.underlying12 rfl (by kernel_rfl)
instance Try.zero12 : Zero Try.prog 12 [.int .u64 0] := ⟨.int .u64 0, fun _ => by kernel_rfl, rfl⟩
instance Try.uty15 : UTy Try.prog 15 (.pointer 117) := ⟨Try.underlying15⟩
instance Try.sca15 : Scalar Try.prog 15 := scalar_of Try.underlying15 rfl (by kernel_rfl)
instance Try.zero15 : Zero Try.prog 15 [.pointer none] := ⟨.pointer none, fun _ => by kernel_rfl, rfl⟩
instance Try.uty16 : UTy Try.prog 16 (.pointer 120) := ⟨Try.underlying16⟩
instance Try.sca16 : Scalar Try.prog 16 := scalar_of Try.underlying16 rfl (by kernel_rfl)
instance Try.zero16 : Zero Try.prog 16 [.pointer none] := ⟨.pointer none, fun _ => by kernel_rfl, rfl⟩
instance Try.uty17 : UTy Try.prog 17 (.pointer 128) := ⟨Try.underlying17⟩
instance Try.sca17 : Scalar Try.prog 17 := scalar_of Try.underlying17 rfl (by kernel_rfl)
instance Try.zero17 : Zero Try.prog 17 [.pointer none] := ⟨.pointer none, fun _ => by kernel_rfl, rfl⟩
instance Try.uty21 : UTy Try.prog 21 (.int .i32) := ⟨Try.underlying21⟩
instance Try.sca21 : Scalar Try.prog 21 := scalar_of Try.underlying21 rfl (by kernel_rfl)
instance Try.zero21 : Zero Try.prog 21 [.int .i32 0] := ⟨.int .i32 0, fun _ => by kernel_rfl, rfl⟩
instance Try.uty22 : UTy Try.prog 22 (.slice 63) := ⟨Try.underlying22⟩
instance Try.sca22 : Scalar Try.prog 22 := scalar_of Try.underlying22 rfl (by kernel_rfl)
theorem Try.erow22 : (Try.prog.info? 63).map (fun i => (i.zero, i.size, i.bytes)) = some (some (.agg #[.int .i64 0, .int .i64 0, .int .i64 0]), 3, 24) := by kernel_rfl
instance Try.elem22 : Elem Try.prog 22 63 3 24 := elem_of Try.underlying22 Try.erow22 rfl
instance Try.zero22 : Zero Try.prog 22 [.slice none 0 0] := ⟨.slice none 0 0, fun _ => by kernel_rfl, rfl⟩
instance Try.uty23 : UTy Try.prog 23 (.int .u32) := ⟨Try.underlying23⟩
instance Try.sca23 : Scalar Try.prog 23 := scalar_of Try.underlying23 rfl (by kernel_rfl)
instance Try.zero23 : Zero Try.prog 23 [.int .u32 0] := ⟨.int .u32 0, fun _ => by kernel_rfl, rfl⟩
instance Try.uty24 : UTy Try.prog 24 (.pointer 71) := ⟨Try.underlying24⟩
instance Try.sca24 : Scalar Try.prog 24 := scalar_of Try.underlying24 rfl (by kernel_rfl)
instance Try.zero24 : Zero Try.prog 24 [.pointer none] := ⟨.pointer none, fun _ => by kernel_rfl, rfl⟩
instance Try.uty25 : UTy Try.prog 25 (.slice 23) := ⟨Try.underlying25⟩
instance Try.sca25 : Scalar Try.prog 25 := scalar_of Try.underlying25 rfl (by kernel_rfl)
theorem Try.erow25 : (Try.prog.info? 23).map (fun i => (i.zero, i.size, i.bytes)) = some (some (.int .u32 0), 1, 4) := by kernel_rfl
instance Try.elem25 : Elem Try.prog 25 23 1 4 := elem_of Try.underlying25 Try.erow25 rfl
instance Try.zero25 : Zero Try.prog 25 [.slice none 0 0] := ⟨.slice none 0 0, fun _ => by kernel_rfl, rfl⟩
instance Try.uty29 : UTy Try.prog 29 (.slice 43) := ⟨Try.underlying29⟩
instance Try.sca29 : Scalar Try.prog 29 := scalar_of Try.underlying29 rfl (by kernel_rfl)
theorem Try.erow29 : (Try.prog.info? 43).map (fun i => (i.zero, i.size, i.bytes)) = some (some (.agg #[.bool false, .int .i64 0, .int .u32 0, .int .i64 0, .int .i64 0, .int .u32 0, .int .u32 0, .int .i64 0, .int .i64 0, .int .i64 0, .int .i64 0]), 11, 80) := by kernel_rfl
instance Try.elem29 : Elem Try.prog 29 43 11 80 := elem_of Try.underlying29 Try.erow29 rfl
instance Try.zero29 : Zero Try.prog 29 [.slice none 0 0] := ⟨.slice none 0 0, fun _ => by kernel_rfl, rfl⟩
instance Try.agg30 : Agg Try.prog 30 2 := agg_of Try.underlying30 rfl (by kernel_rfl)
instance Try.fld30_0 : FieldOff Try.prog 30 0 0 := field_of (m := 1) Try.underlying30 (by kernel_rfl) rfl
instance Try.fld30_1 : FieldOff Try.prog 30 1 1 := field_of (m := 1) Try.underlying30 (by kernel_rfl) rfl
instance Try.zero30 : Zero Try.prog 30 [.slice none 0 0, .slice none 0 0] := ⟨.agg #[.slice none 0 0, .slice none 0 0], fun _ => by kernel_rfl, rfl⟩
instance Try.agg31 : Agg Try.prog 31 2 := agg_of Try.underlying31 rfl (by kernel_rfl)
instance Try.fld31_0 : FieldOff Try.prog 31 0 0 := field_of (m := 1) Try.underlying31 (by kernel_rfl) rfl
instance Try.fld31_1 : FieldOff Try.prog 31 1 1 := field_of (m := 1) Try.underlying31 (by kernel_rfl) rfl
instance Try.zero31 : Zero Try.prog 31 [.slice none 0 0, .slice none 0 0] := ⟨.agg #[.slice none 0 0, .slice none 0 0], fun _ => by kernel_rfl, rfl⟩
instance Try.uty33 : UTy Try.prog 33 (.int .i64) := ⟨Try.underlying33⟩
instance Try.sca33 : Scalar Try.prog 33 := scalar_of Try.underlying33 rfl (by kernel_rfl)
instance Try.zero33 : Zero Try.prog 33 [.int .i64 0] := ⟨.int .i64 0, fun _ => by kernel_rfl, rfl⟩
instance Try.agg35 : Agg Try.prog 35 2 := agg_of Try.underlying35 rfl (by kernel_rfl)
instance Try.fld35_0 : FieldOff Try.prog 35 0 0 := field_of (m := 1) Try.underlying35 (by kernel_rfl) rfl
instance Try.fld35_1 : FieldOff Try.prog 35 1 1 := field_of (m := 1) Try.underlying35 (by kernel_rfl) rfl
instance Try.zero35 : Zero Try.prog 35 [.int .i64 0, .int .i64 0] := ⟨.agg #[.int .i64 0, .int .i64 0], fun _ => by kernel_rfl, rfl⟩
instance Try.agg36 : Agg Try.prog 36 2 := agg_of Try.underlying36 rfl (by kernel_rfl)
instance Try.fld36_0 : FieldOff Try.prog 36 0 0 := field_of (m := 1) Try.underlying36 (by kernel_rfl) rfl
instance Try.fld36_1 : FieldOff Try.prog 36 1 1 := field_of (m := 1) Try.underlying36 (by kernel_rfl) rfl
instance Try.zero36 : Zero Try.prog 36 [.int .i64 0, .int .i64 0] := ⟨.agg #[.int .i64 0, .int .i64 0], fun _ => by kernel_rfl, rfl⟩
instance Try.agg40 : Agg Try.prog 40 8 := agg_of Try.underlying40 rfl (by kernel_rfl)
instance Try.fld40_0 : FieldOff Try.prog 40 0 0 := field_of (m := 1) Try.underlying40 (by kernel_rfl) rfl
instance Try.fld40_1 : FieldOff Try.prog 40 1 1 := field_of (m := 1) Try.underlying40 (by kernel_rfl) rfl
instance Try.fld40_2 : FieldOff Try.prog 40 2 2 := field_of (m := 1) Try.underlying40 (by kernel_rfl) rfl
instance Try.fld40_3 : FieldOff Try.prog 40 3 3 := field_of (m := 1) Try.underlying40 (by kernel_rfl) rfl
instance Try.fld40_4 : FieldOff Try.prog 40 4 4 := field_of (m := 1) Try.underlying40 (by kernel_rfl) rfl
instance Try.fld40_5 : FieldOff Try.prog 40 5 5 := field_of (m := 1) Try.underlying40 (by kernel_rfl) rfl
instance Try.fld40_6 : FieldOff Try.prog 40 6 6 := field_of (m := 1) Try.underlying40 (by kernel_rfl) rfl
instance Try.fld40_7 : FieldOff Try.prog 40 7 7 := field_of (m := 1) Try.underlying40 (by kernel_rfl) rfl
instance Try.zero40 : Zero Try.prog 40 [.int .i64 0, .int .i64 0, .int .u32 0, .int .u32 0, .int .i64 0, .int .i64 0, .int .i64 0, .int .i64 0] := ⟨.agg #[.int .i64 0, .int .i64 0, .int .u32 0, .int .u32 0, .int .i64 0, .int .i64 0, .int .i64 0, .int .i64 0], fun _ => by kernel_rfl, rfl⟩
instance Try.agg41 : Agg Try.prog 41 8 := agg_of Try.underlying41 rfl (by kernel_rfl)
instance Try.fld41_0 : FieldOff Try.prog 41 0 0 := field_of (m := 1) Try.underlying41 (by kernel_rfl) rfl
instance Try.fld41_1 : FieldOff Try.prog 41 1 1 := field_of (m := 1) Try.underlying41 (by kernel_rfl) rfl
instance Try.fld41_2 : FieldOff Try.prog 41 2 2 := field_of (m := 1) Try.underlying41 (by kernel_rfl) rfl
instance Try.fld41_3 : FieldOff Try.prog 41 3 3 := field_of (m := 1) Try.underlying41 (by kernel_rfl) rfl
instance Try.fld41_4 : FieldOff Try.prog 41 4 4 := field_of (m := 1) Try.underlying41 (by kernel_rfl) rfl
instance Try.fld41_5 : FieldOff Try.prog 41 5 5 := field_of (m := 1) Try.underlying41 (by kernel_rfl) rfl
instance Try.fld41_6 : FieldOff Try.prog 41 6 6 := field_of (m := 1) Try.underlying41 (by kernel_rfl) rfl
instance Try.fld41_7 : FieldOff Try.prog 41 7 7 := field_of (m := 1) Try.underlying41 (by kernel_rfl) rfl
instance Try.zero41 : Zero Try.prog 41 [.int .i64 0, .int .i64 0, .int .u32 0, .int .u32 0, .int .i64 0, .int .i64 0, .int .i64 0, .int .i64 0] := ⟨.agg #[.int .i64 0, .int .i64 0, .int .u32 0, .int .u32 0, .int .i64 0, .int .i64 0, .int .i64 0, .int .i64 0], fun _ => by kernel_rfl, rfl⟩
instance Try.agg42 : Agg Try.prog 42 11 := agg_of Try.underlying42 rfl (by kernel_rfl)
instance Try.fld42_0 : FieldOff Try.prog 42 0 0 := field_of (m := 1) Try.underlying42 (by kernel_rfl) rfl
instance Try.fld42_1 : FieldOff Try.prog 42 1 1 := field_of (m := 1) Try.underlying42 (by kernel_rfl) rfl
instance Try.fld42_2 : FieldOff Try.prog 42 2 2 := field_of (m := 1) Try.underlying42 (by kernel_rfl) rfl
instance Try.fld42_3 : FieldOff Try.prog 42 3 3 := field_of (m := 8) Try.underlying42 (by kernel_rfl) rfl
instance Try.zero42 : Zero Try.prog 42 [.bool false, .int .i64 0, .int .u32 0, .int .i64 0, .int .i64 0, .int .u32 0, .int .u32 0, .int .i64 0, .int .i64 0, .int .i64 0, .int .i64 0] := ⟨.agg #[.bool false, .int .i64 0, .int .u32 0, .int .i64 0, .int .i64 0, .int .u32 0, .int .u32 0, .int .i64 0, .int .i64 0, .int .i64 0, .int .i64 0], fun _ => by kernel_rfl, rfl⟩
instance Try.agg43 : Agg Try.prog 43 11 := agg_of Try.underlying43 rfl (by kernel_rfl)
instance Try.fld43_0 : FieldOff Try.prog 43 0 0 := field_of (m := 1) Try.underlying43 (by kernel_rfl) rfl
instance Try.fld43_1 : FieldOff Try.prog 43 1 1 := field_of (m := 1) Try.underlying43 (by kernel_rfl) rfl
instance Try.fld43_2 : FieldOff Try.prog 43 2 2 := field_of (m := 1) Try.underlying43 (by kernel_rfl) rfl
instance Try.fld43_3 : FieldOff Try.prog 43 3 3 := field_of (m := 8) Try.underlying43 (by kernel_rfl) rfl
instance Try.zero43 : Zero Try.prog 43 [.bool false, .int .i64 0, .int .u32 0, .int .i64 0, .int .i64 0, .int .u32 0, .int .u32 0, .int .i64 0, .int .i64 0, .int .i64 0, .int .i64 0] := ⟨.agg #[.bool false, .int .i64 0, .int .u32 0, .int .i64 0, .int .i64 0, .int .u32 0, .int .u32 0, .int .i64 0, .int .i64 0, .int .i64 0, .int .i64 0], fun _ => by kernel_rfl, rfl⟩
instance Try.uty47 : UTy Try.prog 47 (.slice 90) := ⟨Try.underlying47⟩
instance Try.sca47 : Scalar Try.prog 47 := scalar_of Try.underlying47 rfl (by kernel_rfl)
theorem Try.erow47 : (Try.prog.info? 90).map (fun i => (i.zero, i.size, i.bytes)) = some (some (.agg #[.int .i64 0, .int .i64 0, .int .i64 0, .int .i64 0]), 4, 32) := by kernel_rfl
instance Try.elem47 : Elem Try.prog 47 90 4 32 := elem_of Try.underlying47 Try.erow47 rfl
instance Try.zero47 : Zero Try.prog 47 [.slice none 0 0] := ⟨.slice none 0 0, fun _ => by kernel_rfl, rfl⟩
instance Try.agg62 : Agg Try.prog 62 3 := agg_of Try.underlying62 rfl (by kernel_rfl)
instance Try.fld62_0 : FieldOff Try.prog 62 0 0 := field_of (m := 1) Try.underlying62 (by kernel_rfl) rfl
instance Try.fld62_1 : FieldOff Try.prog 62 1 1 := field_of (m := 1) Try.underlying62 (by kernel_rfl) rfl
instance Try.fld62_2 : FieldOff Try.prog 62 2 2 := field_of (m := 1) Try.underlying62 (by kernel_rfl) rfl
instance Try.zero62 : Zero Try.prog 62 [.int .i64 0, .int .i64 0, .int .i64 0] := ⟨.agg #[.int .i64 0, .int .i64 0, .int .i64 0], fun _ => by kernel_rfl, rfl⟩
instance Try.agg63 : Agg Try.prog 63 3 := agg_of Try.underlying63 rfl (by kernel_rfl)
instance Try.fld63_0 : FieldOff Try.prog 63 0 0 := field_of (m := 1) Try.underlying63 (by kernel_rfl) rfl
instance Try.fld63_1 : FieldOff Try.prog 63 1 1 := field_of (m := 1) Try.underlying63 (by kernel_rfl) rfl
instance Try.fld63_2 : FieldOff Try.prog 63 2 2 := field_of (m := 1) Try.underlying63 (by kernel_rfl) rfl
instance Try.zero63 : Zero Try.prog 63 [.int .i64 0, .int .i64 0, .int .i64 0] := ⟨.agg #[.int .i64 0, .int .i64 0, .int .i64 0], fun _ => by kernel_rfl, rfl⟩
instance Try.uty66 : UTy Try.prog 66 (.pointer 100) := ⟨Try.underlying66⟩
instance Try.sca66 : Scalar Try.prog 66 := scalar_of Try.underlying66 rfl (by kernel_rfl)
instance Try.zero66 : Zero Try.prog 66 [.pointer none] := ⟨.pointer none, fun _ => by kernel_rfl, rfl⟩
instance Try.uty67 : UTy Try.prog 67 (.slice 41) := ⟨Try.underlying67⟩
instance Try.sca67 : Scalar Try.prog 67 := scalar_of Try.underlying67 rfl (by kernel_rfl)
theorem Try.erow67 : (Try.prog.info? 41).map (fun i => (i.zero, i.size, i.bytes)) = some (some (.agg #[.int .i64 0, .int .i64 0, .int .u32 0, .int .u32 0, .int .i64 0, .int .i64 0, .int .i64 0, .int .i64 0]), 8, 56) := by kernel_rfl
instance Try.elem67 : Elem Try.prog 67 41 8 56 := elem_of Try.underlying67 Try.erow67 rfl
instance Try.zero67 : Zero Try.prog 67 [.slice none 0 0] := ⟨.slice none 0 0, fun _ => by kernel_rfl, rfl⟩
instance Try.uty68 : UTy Try.prog 68 (.slice 3) := ⟨Try.underlying68⟩
instance Try.sca68 : Scalar Try.prog 68 := scalar_of Try.underlying68 rfl (by kernel_rfl)
theorem Try.erow68 : (Try.prog.info? 3).map (fun i => (i.zero, i.size, i.bytes)) = some (some (.int .i64 0), 1, 8) := by kernel_rfl
instance Try.elem68 : Elem Try.prog 68 3 1 8 := elem_of Try.underlying68 Try.erow68 rfl
instance Try.zero68 : Zero Try.prog 68 [.slice none 0 0] := ⟨.slice none 0 0, fun _ => by kernel_rfl, rfl⟩
instance Try.uty69 : UTy Try.prog 69 (.int .u64) := ⟨Try.underlying69⟩
instance Try.sca69 : Scalar Try.prog 69 := scalar_of Try.underlying69 rfl (by kernel_rfl)
instance Try.zero69 : Zero Try.prog 69 [.int .u64 0] := ⟨.int .u64 0, fun _ => by kernel_rfl, rfl⟩
instance Try.agg70 : Agg Try.prog 70 4 := agg_of Try.underlying70 rfl (by kernel_rfl)
instance Try.fld70_0 : FieldOff Try.prog 70 0 0 := field_of (m := 1) Try.underlying70 (by kernel_rfl) rfl
instance Try.fld70_1 : FieldOff Try.prog 70 1 1 := field_of (m := 1) Try.underlying70 (by kernel_rfl) rfl
instance Try.fld70_2 : FieldOff Try.prog 70 2 2 := field_of (m := 1) Try.underlying70 (by kernel_rfl) rfl
instance Try.fld70_3 : FieldOff Try.prog 70 3 3 := field_of (m := 1) Try.underlying70 (by kernel_rfl) rfl
instance Try.zero70 : Zero Try.prog 70 [.pointer none, .slice none 0 0, .slice none 0 0, .int .u64 0] := ⟨.agg #[.pointer none, .slice none 0 0, .slice none 0 0, .int .u64 0], fun _ => by kernel_rfl, rfl⟩
instance Try.agg71 : Agg Try.prog 71 4 := agg_of Try.underlying71 rfl (by kernel_rfl)
instance Try.fld71_0 : FieldOff Try.prog 71 0 0 := field_of (m := 1) Try.underlying71 (by kernel_rfl) rfl
instance Try.fld71_1 : FieldOff Try.prog 71 1 1 := field_of (m := 1) Try.underlying71 (by kernel_rfl) rfl
instance Try.fld71_2 : FieldOff Try.prog 71 2 2 := field_of (m := 1) Try.underlying71 (by kernel_rfl) rfl
instance Try.fld71_3 : FieldOff Try.prog 71 3 3 := field_of (m := 1) Try.underlying71 (by kernel_rfl) rfl
instance Try.zero71 : Zero Try.prog 71 [.pointer none, .slice none 0 0, .slice none 0 0, .int .u64 0] := ⟨.agg #[.pointer none, .slice none 0 0, .slice none 0 0, .int .u64 0], fun _ => by kernel_rfl, rfl⟩
instance Try.uty77 : UTy Try.prog 77 (.pointer 79) := ⟨Try.underlying77⟩
instance Try.sca77 : Scalar Try.prog 77 := scalar_of Try.underlying77 rfl (by kernel_rfl)
instance Try.zero77 : Zero Try.prog 77 [.pointer none] := ⟨.pointer none, fun _ => by kernel_rfl, rfl⟩
instance Try.agg78 : Agg Try.prog 78 5 := agg_of Try.underlying78 rfl (by kernel_rfl)
instance Try.fld78_0 : FieldOff Try.prog 78 0 0 := field_of (m := 2) Try.underlying78 (by kernel_rfl) rfl
instance Try.fld78_1 : FieldOff Try.prog 78 1 2 := field_of (m := 1) Try.underlying78 (by kernel_rfl) rfl
instance Try.fld78_2 : FieldOff Try.prog 78 2 3 := field_of (m := 1) Try.underlying78 (by kernel_rfl) rfl
instance Try.fld78_3 : FieldOff Try.prog 78 3 4 := field_of (m := 1) Try.underlying78 (by kernel_rfl) rfl
instance Try.zero78 : Zero Try.prog 78 [.slice none 0 0, .slice none 0 0, .int .i64 0, .bool false, .int .i64 0] := ⟨.agg #[.slice none 0 0, .slice none 0 0, .int .i64 0, .bool false, .int .i64 0], fun _ => by kernel_rfl, rfl⟩
instance Try.agg79 : Agg Try.prog 79 5 := agg_of Try.underlying79 rfl (by kernel_rfl)
instance Try.fld79_0 : FieldOff Try.prog 79 0 0 := field_of (m := 2) Try.underlying79 (by kernel_rfl) rfl
instance Try.fld79_1 : FieldOff Try.prog 79 1 2 := field_of (m := 1) Try.underlying79 (by kernel_rfl) rfl
instance Try.fld79_2 : FieldOff Try.prog 79 2 3 := field_of (m := 1) Try.underlying79 (by kernel_rfl) rfl
instance Try.fld79_3 : FieldOff Try.prog 79 3 4 := field_of (m := 1) Try.underlying79 (by kernel_rfl) rfl
instance Try.zero79 : Zero Try.prog 79 [.slice none 0 0, .slice none 0 0, .int .i64 0, .bool false, .int .i64 0] := ⟨.agg #[.slice none 0 0, .slice none 0 0, .int .i64 0, .bool false, .int .i64 0], fun _ => by kernel_rfl, rfl⟩
instance Try.agg87 : Agg Try.prog 87 2 := agg_of Try.underlying87 rfl (by kernel_rfl)
instance Try.fld87_0 : FieldOff Try.prog 87 0 0 := field_of (m := 1) Try.underlying87 (by kernel_rfl) rfl
instance Try.fld87_1 : FieldOff Try.prog 87 1 1 := field_of (m := 1) Try.underlying87 (by kernel_rfl) rfl
instance Try.zero87 : Zero Try.prog 87 [.int .i64 0, .int .i64 0] := ⟨.agg #[.int .i64 0, .int .i64 0], fun _ => by kernel_rfl, rfl⟩
instance Try.agg88 : Agg Try.prog 88 2 := agg_of Try.underlying88 rfl (by kernel_rfl)
instance Try.fld88_0 : FieldOff Try.prog 88 0 0 := field_of (m := 1) Try.underlying88 (by kernel_rfl) rfl
instance Try.fld88_1 : FieldOff Try.prog 88 1 1 := field_of (m := 1) Try.underlying88 (by kernel_rfl) rfl
instance Try.zero88 : Zero Try.prog 88 [.int .i64 0, .int .i64 0] := ⟨.agg #[.int .i64 0, .int .i64 0], fun _ => by kernel_rfl, rfl⟩
instance Try.agg89 : Agg Try.prog 89 4 := agg_of Try.underlying89 rfl (by kernel_rfl)
instance Try.fld89_0 : FieldOff Try.prog 89 0 0 := field_of (m := 2) Try.underlying89 (by kernel_rfl) rfl
instance Try.fld89_1 : FieldOff Try.prog 89 1 2 := field_of (m := 1) Try.underlying89 (by kernel_rfl) rfl
instance Try.fld89_2 : FieldOff Try.prog 89 2 3 := field_of (m := 1) Try.underlying89 (by kernel_rfl) rfl
instance Try.zero89 : Zero Try.prog 89 [.int .i64 0, .int .i64 0, .int .i64 0, .int .i64 0] := ⟨.agg #[.int .i64 0, .int .i64 0, .int .i64 0, .int .i64 0], fun _ => by kernel_rfl, rfl⟩
instance Try.agg90 : Agg Try.prog 90 4 := agg_of Try.underlying90 rfl (by kernel_rfl)
instance Try.fld90_0 : FieldOff Try.prog 90 0 0 := field_of (m := 2) Try.underlying90 (by kernel_rfl) rfl
instance Try.fld90_1 : FieldOff Try.prog 90 1 2 := field_of (m := 1) Try.underlying90 (by kernel_rfl) rfl
instance Try.fld90_2 : FieldOff Try.prog 90 2 3 := field_of (m := 1) Try.underlying90 (by kernel_rfl) rfl
instance Try.zero90 : Zero Try.prog 90 [.int .i64 0, .int .i64 0, .int .i64 0, .int .i64 0] := ⟨.agg #[.int .i64 0, .int .i64 0, .int .i64 0, .int .i64 0], fun _ => by kernel_rfl, rfl⟩
instance Try.uty95 : UTy Try.prog 95 (.array 2 23) := ⟨Try.underlying95⟩
instance Try.agg95 : Agg Try.prog 95 2 := agg_of Try.underlying95 rfl (by kernel_rfl)
instance Try.zero95 : Zero Try.prog 95 [.int .u32 0, .int .u32 0] := ⟨.agg #[.int .u32 0, .int .u32 0], fun _ => by kernel_rfl, rfl⟩
instance Try.uty96 : UTy Try.prog 96 (.pointer 41) := ⟨Try.underlying96⟩
instance Try.sca96 : Scalar Try.prog 96 := scalar_of Try.underlying96 rfl (by kernel_rfl)
instance Try.zero96 : Zero Try.prog 96 [.pointer none] := ⟨.pointer none, fun _ => by kernel_rfl, rfl⟩
instance Try.uty98 : UTy Try.prog 98 (.slice 4) := ⟨Try.underlying98⟩
instance Try.sca98 : Scalar Try.prog 98 := scalar_of Try.underlying98 rfl (by kernel_rfl)
theorem Try.erow98 : (Try.prog.info? 4).map (fun i => (i.zero, i.size, i.bytes)) = some (some (.bool false), 1, 1) := by kernel_rfl
instance Try.elem98 : Elem Try.prog 98 4 1 1 := elem_of Try.underlying98 Try.erow98 rfl
instance Try.zero98 : Zero Try.prog 98 [.slice none 0 0] := ⟨.slice none 0 0, fun _ => by kernel_rfl, rfl⟩
instance Try.agg99 : Agg Try.prog 99 4 := agg_of Try.underlying99 rfl (by kernel_rfl)
instance Try.fld99_0 : FieldOff Try.prog 99 0 0 := field_of (m := 1) Try.underlying99 (by kernel_rfl) rfl
instance Try.fld99_1 : FieldOff Try.prog 99 1 1 := field_of (m := 1) Try.underlying99 (by kernel_rfl) rfl
instance Try.fld99_2 : FieldOff Try.prog 99 2 2 := field_of (m := 1) Try.underlying99 (by kernel_rfl) rfl
instance Try.fld99_3 : FieldOff Try.prog 99 3 3 := field_of (m := 1) Try.underlying99 (by kernel_rfl) rfl
instance Try.zero99 : Zero Try.prog 99 [.slice none 0 0, .slice none 0 0, .slice none 0 0, .int .u32 0] := ⟨.agg #[.slice none 0 0, .slice none 0 0, .slice none 0 0, .int .u32 0], fun _ => by kernel_rfl, rfl⟩
instance Try.agg100 : Agg Try.prog 100 4 := agg_of Try.underlying100 rfl (by kernel_rfl)
instance Try.fld100_0 : FieldOff Try.prog 100 0 0 := field_of (m := 1) Try.underlying100 (by kernel_rfl) rfl
instance Try.fld100_1 : FieldOff Try.prog 100 1 1 := field_of (m := 1) Try.underlying100 (by kernel_rfl) rfl
instance Try.fld100_2 : FieldOff Try.prog 100 2 2 := field_of (m := 1) Try.underlying100 (by kernel_rfl) rfl
instance Try.fld100_3 : FieldOff Try.prog 100 3 3 := field_of (m := 1) Try.underlying100 (by kernel_rfl) rfl
instance Try.zero100 : Zero Try.prog 100 [.slice none 0 0, .slice none 0 0, .slice none 0 0, .int .u32 0] := ⟨.agg #[.slice none 0 0, .slice none 0 0, .slice none 0 0, .int .u32 0], fun _ => by kernel_rfl, rfl⟩
instance Try.uty106 : UTy Try.prog 106 (.slice 113) := ⟨Try.underlying106⟩
instance Try.sca106 : Scalar Try.prog 106 := scalar_of Try.underlying106 rfl (by kernel_rfl)
theorem Try.erow106 : (Try.prog.info? 113).map (fun i => (i.zero, i.size, i.bytes)) = some (some (.agg #[.int .i64 0, .int .u32 0, .int .i64 0, .int .i64 0]), 4, 32) := by kernel_rfl
instance Try.elem106 : Elem Try.prog 106 113 4 32 := elem_of Try.underlying106 Try.erow106 rfl
instance Try.zero106 : Zero Try.prog 106 [.slice none 0 0] := ⟨.slice none 0 0, fun _ => by kernel_rfl, rfl⟩
instance Try.agg112 : Agg Try.prog 112 4 := agg_of Try.underlying112 rfl (by kernel_rfl)
instance Try.fld112_0 : FieldOff Try.prog 112 0 0 := field_of (m := 1) Try.underlying112 (by kernel_rfl) rfl
instance Try.fld112_1 : FieldOff Try.prog 112 1 1 := field_of (m := 1) Try.underlying112 (by kernel_rfl) rfl
instance Try.fld112_2 : FieldOff Try.prog 112 2 2 := field_of (m := 1) Try.underlying112 (by kernel_rfl) rfl
instance Try.fld112_3 : FieldOff Try.prog 112 3 3 := field_of (m := 1) Try.underlying112 (by kernel_rfl) rfl
instance Try.zero112 : Zero Try.prog 112 [.int .i64 0, .int .u32 0, .int .i64 0, .int .i64 0] := ⟨.agg #[.int .i64 0, .int .u32 0, .int .i64 0, .int .i64 0], fun _ => by kernel_rfl, rfl⟩
instance Try.agg113 : Agg Try.prog 113 4 := agg_of Try.underlying113 rfl (by kernel_rfl)
instance Try.fld113_0 : FieldOff Try.prog 113 0 0 := field_of (m := 1) Try.underlying113 (by kernel_rfl) rfl
instance Try.fld113_1 : FieldOff Try.prog 113 1 1 := field_of (m := 1) Try.underlying113 (by kernel_rfl) rfl
instance Try.fld113_2 : FieldOff Try.prog 113 2 2 := field_of (m := 1) Try.underlying113 (by kernel_rfl) rfl
instance Try.fld113_3 : FieldOff Try.prog 113 3 3 := field_of (m := 1) Try.underlying113 (by kernel_rfl) rfl
instance Try.zero113 : Zero Try.prog 113 [.int .i64 0, .int .u32 0, .int .i64 0, .int .i64 0] := ⟨.agg #[.int .i64 0, .int .u32 0, .int .i64 0, .int .i64 0], fun _ => by kernel_rfl, rfl⟩
instance Try.uty118 : UTy Try.prog 118 (.array 0 16) := ⟨Try.underlying118⟩
instance Try.zero118 : Zero Try.prog 118 [] := ⟨.agg #[], fun _ => by kernel_rfl, rfl⟩
instance Try.uty124 : UTy Try.prog 124 (.pointer 5) := ⟨Try.underlying124⟩
instance Try.sca124 : Scalar Try.prog 124 := scalar_of Try.underlying124 rfl (by kernel_rfl)
instance Try.zero124 : Zero Try.prog 124 [.pointer none] := ⟨.pointer none, fun _ => by kernel_rfl, rfl⟩
instance Try.agg127 : Agg Try.prog 127 11 := agg_of Try.underlying127 rfl (by kernel_rfl)
instance Try.fld127_0 : FieldOff Try.prog 127 0 0 := field_of (m := 1) Try.underlying127 (by kernel_rfl) rfl
instance Try.fld127_1 : FieldOff Try.prog 127 1 1 := field_of (m := 1) Try.underlying127 (by kernel_rfl) rfl
instance Try.fld127_2 : FieldOff Try.prog 127 2 2 := field_of (m := 1) Try.underlying127 (by kernel_rfl) rfl
instance Try.fld127_3 : FieldOff Try.prog 127 3 3 := field_of (m := 1) Try.underlying127 (by kernel_rfl) rfl
instance Try.fld127_4 : FieldOff Try.prog 127 4 4 := field_of (m := 1) Try.underlying127 (by kernel_rfl) rfl
instance Try.fld127_5 : FieldOff Try.prog 127 5 5 := field_of (m := 1) Try.underlying127 (by kernel_rfl) rfl
instance Try.fld127_6 : FieldOff Try.prog 127 6 6 := field_of (m := 1) Try.underlying127 (by kernel_rfl) rfl
instance Try.fld127_7 : FieldOff Try.prog 127 7 7 := field_of (m := 1) Try.underlying127 (by kernel_rfl) rfl
instance Try.fld127_8 : FieldOff Try.prog 127 8 8 := field_of (m := 1) Try.underlying127 (by kernel_rfl) rfl
instance Try.fld127_9 : FieldOff Try.prog 127 9 9 := field_of (m := 1) Try.underlying127 (by kernel_rfl) rfl
instance Try.fld127_10 : FieldOff Try.prog 127 10 10 := field_of (m := 1) Try.underlying127 (by kernel_rfl) rfl
instance Try.zero127 : Zero Try.prog 127 [.int .u64 0, .int .u64 0, .int .u32 0, .int .u8 0, .int .u8 0, .int .u8 0, .int .u8 0, .nilFunc, .pointer none, .int .i32 0, .int .i32 0] := ⟨.agg #[.int .u64 0, .int .u64 0, .int .u32 0, .int .u8 0, .int .u8 0, .int .u8 0, .int .u8 0, .nilFunc, .pointer none, .int .i32 0, .int .i32 0], fun _ => by kernel_rfl, rfl⟩
instance Try.part2 : PartT Try.prog 2 none := part_scalar inferInstance
instance Try.eqp2 : EqP Try.prog 2 [true] 1 := eqp_int Try.underlying2 inferInstance
instance Try.part3 : PartT Try.prog 3 none := part_scalar inferInstance
instance Try.eqp3 : EqP Try.prog 3 [true] 1 := eqp_int Try.underlying3 inferInstance
instance Try.part4 : PartT Try.prog 4 none := part_scalar inferInstance
instance Try.eqp4 : EqP Try.prog 4 [false] 1 := eqp_bool Try.underlying4 inferInstance
instance Try.part5 : PartT Try.prog 5 none := part_scalar inferInstance
instance Try.eqp5 : EqP Try.prog 5 [true] 1 := eqp_int Try.underlying5 inferInstance
instance Try.part9 : PartT Try.prog 9 none := part_scalar inferInstance
instance Try.part12 : PartT Try.prog 12 none := part_scalar inferInstance
instance Try.eqp12 : EqP Try.prog 12 [true] 1 := eqp_int Try.underlying12 inferInstance
instance Try.part15 : PartT Try.prog 15 none := part_scalar inferInstance
instance Try.part16 : PartT Try.prog 16 none := part_scalar inferInstance
instance Try.part17 : PartT Try.prog 17 none := part_scalar inferInstance
instance Try.part21 : PartT Try.prog 21 none := part_scalar inferInstance
instance Try.eqp21 : EqP Try.prog 21 [true] 1 := eqp_int Try.underlying21 inferInstance
instance Try.part22 : PartT Try.prog 22 none := part_scalar inferInstance
instance Try.part23 : PartT Try.prog 23 none := part_scalar inferInstance
instance Try.eqp23 : EqP Try.prog 23 [true] 1 := eqp_int Try.underlying23 inferInstance
instance Try.part24 : PartT Try.prog 24 none := part_scalar inferInstance
instance Try.part25 : PartT Try.prog 25 none := part_scalar inferInstance
instance Try.part29 : PartT Try.prog 29 none := part_scalar inferInstance
instance Try.part30 : PartT Try.prog 30 (some 2) := part_agg inferInstance rfl
instance Try.bld30 : Bld Try.prog 30 [[.slice none 0 0], [.slice none 0 0]] := bld_struct Try.underlying30 (z := .agg #[.slice none 0 0, .slice none 0 0]) (fun _ => by kernel_rfl) rfl (by kernel_rfl) rfl
instance Try.fv30_0 : FieldV Try.prog 30 0 29 0 := fieldV_of Try.underlying30 (by kernel_rfl)
instance Try.fv30_1 : FieldV Try.prog 30 1 25 1 := fieldV_of Try.underlying30 (by kernel_rfl)
instance Try.part31 : PartT Try.prog 31 (some 2) := part_agg inferInstance rfl
instance Try.bld31 : Bld Try.prog 31 [[.slice none 0 0], [.slice none 0 0]] := bld_struct Try.underlying31 (z := .agg #[.slice none 0 0, .slice none 0 0]) (fun _ => by kernel_rfl) rfl (by kernel_rfl) rfl
instance Try.fv31_0 : FieldV Try.prog 31 0 29 0 := fieldV_of Try.underlying31 (by kernel_rfl)
instance Try.fv31_1 : FieldV Try.prog 31 1 25 1 := fieldV_of Try.underlying31 (by kernel_rfl)
instance Try.part33 : PartT Try.prog 33 none := part_scalar inferInstance
instance Try.eqp33 : EqP Try.prog 33 [true] 1 := eqp_int Try.underlying33 inferInstance
instance Try.part35 : PartT Try.prog 35 (some 2) := part_agg inferInstance rfl
instance Try.bld35 : Bld Try.prog 35 [[.int .i64 0], [.int .i64 0]] := bld_struct Try.underlying35 (z := .agg #[.int .i64 0, .int .i64 0]) (fun _ => by kernel_rfl) rfl (by kernel_rfl) rfl
instance Try.fv35_0 : FieldV Try.prog 35 0 3 0 := fieldV_of Try.underlying35 (by kernel_rfl)
instance Try.fv35_1 : FieldV Try.prog 35 1 3 1 := fieldV_of Try.underlying35 (by kernel_rfl)
instance Try.eqp35 : EqP Try.prog 35 [true, true] 2 := eqp_struct Try.underlying35 inferInstance rfl rfl (by kernel_rfl) ⟨by decide, rfl, [true], [true], 1, inferInstance, by decide, rfl, ⟨by decide, rfl, [true], [], 1, inferInstance, by decide, rfl, rfl⟩⟩
instance Try.eqg35 : EqG Try.prog 35 := ⟨by kernel_rfl⟩
instance Try.part36 : PartT Try.prog 36 (some 2) := part_agg inferInstance rfl
instance Try.bld36 : Bld Try.prog 36 [[.int .i64 0], [.int .i64 0]] := bld_struct Try.underlying36 (z := .agg #[.int .i64 0, .int .i64 0]) (fun _ => by kernel_rfl) rfl (by kernel_rfl) rfl
instance Try.fv36_0 : FieldV Try.prog 36 0 3 0 := fieldV_of Try.underlying36 (by kernel_rfl)
instance Try.fv36_1 : FieldV Try.prog 36 1 3 1 := fieldV_of Try.underlying36 (by kernel_rfl)
instance Try.eqp36 : EqP Try.prog 36 [true, true] 2 := eqp_struct Try.underlying36 inferInstance rfl rfl (by kernel_rfl) ⟨by decide, rfl, [true], [true], 1, inferInstance, by decide, rfl, ⟨by decide, rfl, [true], [], 1, inferInstance, by decide, rfl, rfl⟩⟩
instance Try.eqg36 : EqG Try.prog 36 := ⟨by kernel_rfl⟩
instance Try.part40 : PartT Try.prog 40 (some 8) := part_agg inferInstance rfl
instance Try.bld40 : Bld Try.prog 40 [[.int .i64 0], [.int .i64 0], [.int .u32 0], [.int .u32 0], [.int .i64 0], [.int .i64 0], [.int .i64 0], [.int .i64 0]] := bld_struct Try.underlying40 (z := .agg #[.int .i64 0, .int .i64 0, .int .u32 0, .int .u32 0, .int .i64 0, .int .i64 0, .int .i64 0, .int .i64 0]) (fun _ => by kernel_rfl) rfl (by kernel_rfl) rfl
instance Try.fv40_0 : FieldV Try.prog 40 0 2 0 := fieldV_of Try.underlying40 (by kernel_rfl)
instance Try.fv40_1 : FieldV Try.prog 40 1 2 1 := fieldV_of Try.underlying40 (by kernel_rfl)
instance Try.fv40_2 : FieldV Try.prog 40 2 23 2 := fieldV_of Try.underlying40 (by kernel_rfl)
instance Try.fv40_3 : FieldV Try.prog 40 3 23 3 := fieldV_of Try.underlying40 (by kernel_rfl)
instance Try.fv40_4 : FieldV Try.prog 40 4 3 4 := fieldV_of Try.underlying40 (by kernel_rfl)
instance Try.fv40_5 : FieldV Try.prog 40 5 2 5 := fieldV_of Try.underlying40 (by kernel_rfl)
instance Try.fv40_6 : FieldV Try.prog 40 6 2 6 := fieldV_of Try.underlying40 (by kernel_rfl)
instance Try.fv40_7 : FieldV Try.prog 40 7 2 7 := fieldV_of Try.underlying40 (by kernel_rfl)
instance Try.eqp40 : EqP Try.prog 40 [true, true, true, true, true, true, true, true] 2 := eqp_struct Try.underlying40 inferInstance rfl rfl (by kernel_rfl) ⟨by decide, rfl, [true], [true, true, true, true, true, true, true], 1, inferInstance, by decide, rfl, ⟨by decide, rfl, [true], [true, true, true, true, true, true], 1, inferInstance, by decide, rfl, ⟨by decide, rfl, [true], [true, true, true, true, true], 1, inferInstance, by decide, rfl, ⟨by decide, rfl, [true], [true, true, true, true], 1, inferInstance, by decide, rfl, ⟨by decide, rfl, [true], [true, true, true], 1, inferInstance, by decide, rfl, ⟨by decide, rfl, [true], [true, true], 1, inferInstance, by decide, rfl, ⟨by decide, rfl, [true], [true], 1, inferInstance, by decide, rfl, ⟨by decide, rfl, [true], [], 1, inferInstance, by decide, rfl, rfl⟩⟩⟩⟩⟩⟩⟩⟩
instance Try.eqg40 : EqG Try.prog 40 := ⟨by kernel_rfl⟩
instance Try.part41 : PartT Try.prog 41 (some 8) := part_agg inferInstance rfl
instance Try.bld41 : Bld Try.prog 41 [[.int .i64 0], [.int .i64 0], [.int .u32 0], [.int .u32 0], [.int .i64 0], [.int .i64 0], [.int .i64 0], [.int .i64 0]] := bld_struct Try.underlying41 (z := .agg #[.int .i64 0, .int .i64 0, .int .u32 0, .int .u32 0, .int .i64 0, .int .i64 0, .int .i64 0, .int .i64 0]) (fun _ => by kernel_rfl) rfl (by kernel_rfl) rfl
instance Try.fv41_0 : FieldV Try.prog 41 0 2 0 := fieldV_of Try.underlying41 (by kernel_rfl)
instance Try.fv41_1 : FieldV Try.prog 41 1 2 1 := fieldV_of Try.underlying41 (by kernel_rfl)
instance Try.fv41_2 : FieldV Try.prog 41 2 23 2 := fieldV_of Try.underlying41 (by kernel_rfl)
instance Try.fv41_3 : FieldV Try.prog 41 3 23 3 := fieldV_of Try.underlying41 (by kernel_rfl)
instance Try.fv41_4 : FieldV Try.prog 41 4 3 4 := fieldV_of Try.underlying41 (by kernel_rfl)
instance Try.fv41_5 : FieldV Try.prog 41 5 2 5 := fieldV_of Try.underlying41 (by kernel_rfl)
instance Try.fv41_6 : FieldV Try.prog 41 6 2 6 := fieldV_of Try.underlying41 (by kernel_rfl)
instance Try.fv41_7 : FieldV Try.prog 41 7 2 7 := fieldV_of Try.underlying41 (by kernel_rfl)
instance Try.eqp41 : EqP Try.prog 41 [true, true, true, true, true, true, true, true] 2 := eqp_struct Try.underlying41 inferInstance rfl rfl (by kernel_rfl) ⟨by decide, rfl, [true], [true, true, true, true, true, true, true], 1, inferInstance, by decide, rfl, ⟨by decide, rfl, [true], [true, true, true, true, true, true], 1, inferInstance, by decide, rfl, ⟨by decide, rfl, [true], [true, true, true, true, true], 1, inferInstance, by decide, rfl, ⟨by decide, rfl, [true], [true, true, true, true], 1, inferInstance, by decide, rfl, ⟨by decide, rfl, [true], [true, true, true], 1, inferInstance, by decide, rfl, ⟨by decide, rfl, [true], [true, true], 1, inferInstance, by decide, rfl, ⟨by decide, rfl, [true], [true], 1, inferInstance, by decide, rfl, ⟨by decide, rfl, [true], [], 1, inferInstance, by decide, rfl, rfl⟩⟩⟩⟩⟩⟩⟩⟩
instance Try.eqg41 : EqG Try.prog 41 := ⟨by kernel_rfl⟩
instance Try.part42 : PartT Try.prog 42 (some 11) := part_agg inferInstance rfl
instance Try.bld42 : Bld Try.prog 42 [[.bool false], [.int .i64 0], [.int .u32 0], [.int .i64 0, .int .i64 0, .int .u32 0, .int .u32 0, .int .i64 0, .int .i64 0, .int .i64 0, .int .i64 0]] := bld_struct Try.underlying42 (z := .agg #[.bool false, .int .i64 0, .int .u32 0, .int .i64 0, .int .i64 0, .int .u32 0, .int .u32 0, .int .i64 0, .int .i64 0, .int .i64 0, .int .i64 0]) (fun _ => by kernel_rfl) rfl (by kernel_rfl) rfl
instance Try.fv42_0 : FieldV Try.prog 42 0 4 0 := fieldV_of Try.underlying42 (by kernel_rfl)
instance Try.fv42_1 : FieldV Try.prog 42 1 3 1 := fieldV_of Try.underlying42 (by kernel_rfl)
instance Try.fv42_2 : FieldV Try.prog 42 2 23 2 := fieldV_of Try.underlying42 (by kernel_rfl)
instance Try.fv42_3 : FieldV Try.prog 42 3 41 3 := fieldV_of Try.underlying42 (by kernel_rfl)
instance Try.eqp42 : EqP Try.prog 42 [false, true, true, true, true, true, true, true, true, true, true] 3 := eqp_struct Try.underlying42 inferInstance rfl rfl (by kernel_rfl) ⟨by decide, rfl, [false], [true, true, true, true, true, true, true, true, true, true], 1, inferInstance, by decide, rfl, ⟨by decide, rfl, [true], [true, true, true, true, true, true, true, true, true], 1, inferInstance, by decide, rfl, ⟨by decide, rfl, [true], [true, true, true, true, true, true, true, true], 1, inferInstance, by decide, rfl, ⟨by decide, rfl, [true, true, true, true, true, true, true, true], [], 2, inferInstance, by decide, rfl, rfl⟩⟩⟩⟩
instance Try.eqg42 : EqG Try.prog 42 := ⟨by kernel_rfl⟩
instance Try.part43 : PartT Try.prog 43 (some 11) := part_agg inferInstance rfl
instance Try.bld43 : Bld Try.prog 43 [[.bool false], [.int .i64 0], [.int .u32 0], [.int .i64 0, .int .i64 0, .int .u32 0, .int .u32 0, .int .i64 0, .int .i64 0, .int .i64 0, .int .i64 0]] := bld_struct Try.underlying43 (z := .agg #[.bool false, .int .i64 0, .int .u32 0, .int .i64 0, .int .i64 0, .int .u32 0, .int .u32 0, .int .i64 0, .int .i64 0, .int .i64 0, .int .i64 0]) (fun _ => by kernel_rfl) rfl (by kernel_rfl) rfl
instance Try.fv43_0 : FieldV Try.prog 43 0 4 0 := fieldV_of Try.underlying43 (by kernel_rfl)
instance Try.fv43_1 : FieldV Try.prog 43 1 3 1 := fieldV_of Try.underlying43 (by kernel_rfl)
instance Try.fv43_2 : FieldV Try.prog 43 2 23 2 := fieldV_of Try.underlying43 (by kernel_rfl)
instance Try.fv43_3 : FieldV Try.prog 43 3 41 3 := fieldV_of Try.underlying43 (by kernel_rfl)
instance Try.eqp43 : EqP Try.prog 43 [false, true, true, true, true, true, true, true, true, true, true] 3 := eqp_struct Try.underlying43 inferInstance rfl rfl (by kernel_rfl) ⟨by decide, rfl, [false], [true, true, true, true, true, true, true, true, true, true], 1, inferInstance, by decide, rfl, ⟨by decide, rfl, [true], [true, true, true, true, true, true, true, true, true], 1, inferInstance, by decide, rfl, ⟨by decide, rfl, [true], [true, true, true, true, true, true, true, true], 1, inferInstance, by decide, rfl, ⟨by decide, rfl, [true, true, true, true, true, true, true, true], [], 2, inferInstance, by decide, rfl, rfl⟩⟩⟩⟩
instance Try.eqg43 : EqG Try.prog 43 := ⟨by kernel_rfl⟩
instance Try.part47 : PartT Try.prog 47 none := part_scalar inferInstance
instance Try.part62 : PartT Try.prog 62 (some 3) := part_agg inferInstance rfl
instance Try.bld62 : Bld Try.prog 62 [[.int .i64 0], [.int .i64 0], [.int .i64 0]] := bld_struct Try.underlying62 (z := .agg #[.int .i64 0, .int .i64 0, .int .i64 0]) (fun _ => by kernel_rfl) rfl (by kernel_rfl) rfl
instance Try.fv62_0 : FieldV Try.prog 62 0 2 0 := fieldV_of Try.underlying62 (by kernel_rfl)
instance Try.fv62_1 : FieldV Try.prog 62 1 3 1 := fieldV_of Try.underlying62 (by kernel_rfl)
instance Try.fv62_2 : FieldV Try.prog 62 2 3 2 := fieldV_of Try.underlying62 (by kernel_rfl)
instance Try.eqp62 : EqP Try.prog 62 [true, true, true] 2 := eqp_struct Try.underlying62 inferInstance rfl rfl (by kernel_rfl) ⟨by decide, rfl, [true], [true, true], 1, inferInstance, by decide, rfl, ⟨by decide, rfl, [true], [true], 1, inferInstance, by decide, rfl, ⟨by decide, rfl, [true], [], 1, inferInstance, by decide, rfl, rfl⟩⟩⟩
instance Try.eqg62 : EqG Try.prog 62 := ⟨by kernel_rfl⟩
instance Try.part63 : PartT Try.prog 63 (some 3) := part_agg inferInstance rfl
instance Try.bld63 : Bld Try.prog 63 [[.int .i64 0], [.int .i64 0], [.int .i64 0]] := bld_struct Try.underlying63 (z := .agg #[.int .i64 0, .int .i64 0, .int .i64 0]) (fun _ => by kernel_rfl) rfl (by kernel_rfl) rfl
instance Try.fv63_0 : FieldV Try.prog 63 0 2 0 := fieldV_of Try.underlying63 (by kernel_rfl)
instance Try.fv63_1 : FieldV Try.prog 63 1 3 1 := fieldV_of Try.underlying63 (by kernel_rfl)
instance Try.fv63_2 : FieldV Try.prog 63 2 3 2 := fieldV_of Try.underlying63 (by kernel_rfl)
instance Try.eqp63 : EqP Try.prog 63 [true, true, true] 2 := eqp_struct Try.underlying63 inferInstance rfl rfl (by kernel_rfl) ⟨by decide, rfl, [true], [true, true], 1, inferInstance, by decide, rfl, ⟨by decide, rfl, [true], [true], 1, inferInstance, by decide, rfl, ⟨by decide, rfl, [true], [], 1, inferInstance, by decide, rfl, rfl⟩⟩⟩
instance Try.eqg63 : EqG Try.prog 63 := ⟨by kernel_rfl⟩
instance Try.part66 : PartT Try.prog 66 none := part_scalar inferInstance
instance Try.part67 : PartT Try.prog 67 none := part_scalar inferInstance
instance Try.part68 : PartT Try.prog 68 none := part_scalar inferInstance
instance Try.part69 : PartT Try.prog 69 none := part_scalar inferInstance
instance Try.eqp69 : EqP Try.prog 69 [true] 1 := eqp_int Try.underlying69 inferInstance
instance Try.part70 : PartT Try.prog 70 (some 4) := part_agg inferInstance rfl
instance Try.bld70 : Bld Try.prog 70 [[.pointer none], [.slice none 0 0], [.slice none 0 0], [.int .u64 0]] := bld_struct Try.underlying70 (z := .agg #[.pointer none, .slice none 0 0, .slice none 0 0, .int .u64 0]) (fun _ => by kernel_rfl) rfl (by kernel_rfl) rfl
instance Try.fv70_0 : FieldV Try.prog 70 0 66 0 := fieldV_of Try.underlying70 (by kernel_rfl)
instance Try.fv70_1 : FieldV Try.prog 70 1 67 1 := fieldV_of Try.underlying70 (by kernel_rfl)
instance Try.fv70_2 : FieldV Try.prog 70 2 68 2 := fieldV_of Try.underlying70 (by kernel_rfl)
instance Try.fv70_3 : FieldV Try.prog 70 3 69 3 := fieldV_of Try.underlying70 (by kernel_rfl)
instance Try.part71 : PartT Try.prog 71 (some 4) := part_agg inferInstance rfl
instance Try.bld71 : Bld Try.prog 71 [[.pointer none], [.slice none 0 0], [.slice none 0 0], [.int .u64 0]] := bld_struct Try.underlying71 (z := .agg #[.pointer none, .slice none 0 0, .slice none 0 0, .int .u64 0]) (fun _ => by kernel_rfl) rfl (by kernel_rfl) rfl
instance Try.fv71_0 : FieldV Try.prog 71 0 66 0 := fieldV_of Try.underlying71 (by kernel_rfl)
instance Try.fv71_1 : FieldV Try.prog 71 1 67 1 := fieldV_of Try.underlying71 (by kernel_rfl)
instance Try.fv71_2 : FieldV Try.prog 71 2 68 2 := fieldV_of Try.underlying71 (by kernel_rfl)
instance Try.fv71_3 : FieldV Try.prog 71 3 69 3 := fieldV_of Try.underlying71 (by kernel_rfl)
instance Try.part77 : PartT Try.prog 77 none := part_scalar inferInstance
instance Try.part78 : PartT Try.prog 78 (some 5) := part_agg inferInstance rfl
instance Try.bld78 : Bld Try.prog 78 [[.slice none 0 0, .slice none 0 0], [.int .i64 0], [.bool false], [.int .i64 0]] := bld_struct Try.underlying78 (z := .agg #[.slice none 0 0, .slice none 0 0, .int .i64 0, .bool false, .int .i64 0]) (fun _ => by kernel_rfl) rfl (by kernel_rfl) rfl
instance Try.fv78_0 : FieldV Try.prog 78 0 31 0 := fieldV_of Try.underlying78 (by kernel_rfl)
instance Try.fv78_1 : FieldV Try.prog 78 1 2 2 := fieldV_of Try.underlying78 (by kernel_rfl)
instance Try.fv78_2 : FieldV Try.prog 78 2 4 3 := fieldV_of Try.underlying78 (by kernel_rfl)
instance Try.fv78_3 : FieldV Try.prog 78 3 3 4 := fieldV_of Try.underlying78 (by kernel_rfl)
instance Try.part79 : PartT Try.prog 79 (some 5) := part_agg inferInstance rfl
instance Try.bld79 : Bld Try.prog 79 [[.slice none 0 0, .slice none 0 0], [.int .i64 0], [.bool false], [.int .i64 0]] := bld_struct Try.underlying79 (z := .agg #[.slice none 0 0, .slice none 0 0, .int .i64 0, .bool false, .int .i64 0]) (fun _ => by kernel_rfl) rfl (by kernel_rfl) rfl
instance Try.fv79_0 : FieldV Try.prog 79 0 31 0 := fieldV_of Try.underlying79 (by kernel_rfl)
instance Try.fv79_1 : FieldV Try.prog 79 1 2 2 := fieldV_of Try.underlying79 (by kernel_rfl)
instance Try.fv79_2 : FieldV Try.prog 79 2 4 3 := fieldV_of Try.underlying79 (by kernel_rfl)
instance Try.fv79_3 : FieldV Try.prog 79 3 3 4 := fieldV_of Try.underlying79 (by kernel_rfl)
instance Try.part87 : PartT Try.prog 87 (some 2) := part_agg inferInstance rfl
instance Try.bld87 : Bld Try.prog 87 [[.int .i64 0], [.int .i64 0]] := bld_struct Try.underlying87 (z := .agg #[.int .i64 0, .int .i64 0]) (fun _ => by kernel_rfl) rfl (by kernel_rfl) rfl
instance Try.fv87_0 : FieldV Try.prog 87 0 2 0 := fieldV_of Try.underlying87 (by kernel_rfl)
instance Try.fv87_1 : FieldV Try.prog 87 1 2 1 := fieldV_of Try.underlying87 (by kernel_rfl)
instance Try.eqp87 : EqP Try.prog 87 [true, true] 2 := eqp_struct Try.underlying87 inferInstance rfl rfl (by kernel_rfl) ⟨by decide, rfl, [true], [true], 1, inferInstance, by decide, rfl, ⟨by decide, rfl, [true], [], 1, inferInstance, by decide, rfl, rfl⟩⟩
instance Try.eqg87 : EqG Try.prog 87 := ⟨by kernel_rfl⟩
instance Try.part88 : PartT Try.prog 88 (some 2) := part_agg inferInstance rfl
instance Try.bld88 : Bld Try.prog 88 [[.int .i64 0], [.int .i64 0]] := bld_struct Try.underlying88 (z := .agg #[.int .i64 0, .int .i64 0]) (fun _ => by kernel_rfl) rfl (by kernel_rfl) rfl
instance Try.fv88_0 : FieldV Try.prog 88 0 2 0 := fieldV_of Try.underlying88 (by kernel_rfl)
instance Try.fv88_1 : FieldV Try.prog 88 1 2 1 := fieldV_of Try.underlying88 (by kernel_rfl)
instance Try.eqp88 : EqP Try.prog 88 [true, true] 2 := eqp_struct Try.underlying88 inferInstance rfl rfl (by kernel_rfl) ⟨by decide, rfl, [true], [true], 1, inferInstance, by decide, rfl, ⟨by decide, rfl, [true], [], 1, inferInstance, by decide, rfl, rfl⟩⟩
instance Try.eqg88 : EqG Try.prog 88 := ⟨by kernel_rfl⟩
instance Try.part89 : PartT Try.prog 89 (some 4) := part_agg inferInstance rfl
instance Try.bld89 : Bld Try.prog 89 [[.int .i64 0, .int .i64 0], [.int .i64 0], [.int .i64 0]] := bld_struct Try.underlying89 (z := .agg #[.int .i64 0, .int .i64 0, .int .i64 0, .int .i64 0]) (fun _ => by kernel_rfl) rfl (by kernel_rfl) rfl
instance Try.fv89_0 : FieldV Try.prog 89 0 88 0 := fieldV_of Try.underlying89 (by kernel_rfl)
instance Try.fv89_1 : FieldV Try.prog 89 1 3 2 := fieldV_of Try.underlying89 (by kernel_rfl)
instance Try.fv89_2 : FieldV Try.prog 89 2 3 3 := fieldV_of Try.underlying89 (by kernel_rfl)
instance Try.eqp89 : EqP Try.prog 89 [true, true, true, true] 3 := eqp_struct Try.underlying89 inferInstance rfl rfl (by kernel_rfl) ⟨by decide, rfl, [true, true], [true, true], 2, inferInstance, by decide, rfl, ⟨by decide, rfl, [true], [true], 1, inferInstance, by decide, rfl, ⟨by decide, rfl, [true], [], 1, inferInstance, by decide, rfl, rfl⟩⟩⟩
instance Try.eqg89 : EqG Try.prog 89 := ⟨by kernel_rfl⟩
instance Try.part90 : PartT Try.prog 90 (some 4) := part_agg inferInstance rfl
instance Try.bld90 : Bld Try.prog 90 [[.int .i64 0, .int .i64 0], [.int .i64 0], [.int .i64 0]] := bld_struct Try.underlying90 (z := .agg #[.int .i64 0, .int .i64 0, .int .i64 0, .int .i64 0]) (fun _ => by kernel_rfl) rfl (by kernel_rfl) rfl
instance Try.fv90_0 : FieldV Try.prog 90 0 88 0 := fieldV_of Try.underlying90 (by kernel_rfl)
instance Try.fv90_1 : FieldV Try.prog 90 1 3 2 := fieldV_of Try.underlying90 (by kernel_rfl)
instance Try.fv90_2 : FieldV Try.prog 90 2 3 3 := fieldV_of Try.underlying90 (by kernel_rfl)
instance Try.eqp90 : EqP Try.prog 90 [true, true, true, true] 3 := eqp_struct Try.underlying90 inferInstance rfl rfl (by kernel_rfl) ⟨by decide, rfl, [true, true], [true, true], 2, inferInstance, by decide, rfl, ⟨by decide, rfl, [true], [true], 1, inferInstance, by decide, rfl, ⟨by decide, rfl, [true], [], 1, inferInstance, by decide, rfl, rfl⟩⟩⟩
instance Try.eqg90 : EqG Try.prog 90 := ⟨by kernel_rfl⟩
instance Try.part95 : PartT Try.prog 95 (some 2) := part_agg inferInstance rfl
instance Try.bld95 : Bld Try.prog 95 [[.int .u32 0], [.int .u32 0]] := bld_array (m := 1) Try.underlying95 (z := .agg #[.int .u32 0, .int .u32 0]) (fun _ => by kernel_rfl) rfl (by kernel_rfl) (by decide) rfl
instance Try.part96 : PartT Try.prog 96 none := part_scalar inferInstance
instance Try.part98 : PartT Try.prog 98 none := part_scalar inferInstance
instance Try.part99 : PartT Try.prog 99 (some 4) := part_agg inferInstance rfl
instance Try.bld99 : Bld Try.prog 99 [[.slice none 0 0], [.slice none 0 0], [.slice none 0 0], [.int .u32 0]] := bld_struct Try.underlying99 (z := .agg #[.slice none 0 0, .slice none 0 0, .slice none 0 0, .int .u32 0]) (fun _ => by kernel_rfl) rfl (by kernel_rfl) rfl
instance Try.fv99_0 : FieldV Try.prog 99 0 98 0 := fieldV_of Try.underlying99 (by kernel_rfl)
instance Try.fv99_1 : FieldV Try.prog 99 1 25 1 := fieldV_of Try.underlying99 (by kernel_rfl)
instance Try.fv99_2 : FieldV Try.prog 99 2 25 2 := fieldV_of Try.underlying99 (by kernel_rfl)
instance Try.fv99_3 : FieldV Try.prog 99 3 23 3 := fieldV_of Try.underlying99 (by kernel_rfl)
instance Try.part100 : PartT Try.prog 100 (some 4) := part_agg inferInstance rfl
instance Try.bld100 : Bld Try.prog 100 [[.slice none 0 0], [.slice none 0 0], [.slice none 0 0], [.int .u32 0]] := bld_struct Try.underlying100 (z := .agg #[.slice none 0 0, .slice none 0 0, .slice none 0 0, .int .u32 0]) (fun _ => by kernel_rfl) rfl (by kernel_rfl) rfl
instance Try.fv100_0 : FieldV Try.prog 100 0 98 0 := fieldV_of Try.underlying100 (by kernel_rfl)
instance Try.fv100_1 : FieldV Try.prog 100 1 25 1 := fieldV_of Try.underlying100 (by kernel_rfl)
instance Try.fv100_2 : FieldV Try.prog 100 2 25 2 := fieldV_of Try.underlying100 (by kernel_rfl)
instance Try.fv100_3 : FieldV Try.prog 100 3 23 3 := fieldV_of Try.underlying100 (by kernel_rfl)
instance Try.part106 : PartT Try.prog 106 none := part_scalar inferInstance
instance Try.part112 : PartT Try.prog 112 (some 4) := part_agg inferInstance rfl
instance Try.bld112 : Bld Try.prog 112 [[.int .i64 0], [.int .u32 0], [.int .i64 0], [.int .i64 0]] := bld_struct Try.underlying112 (z := .agg #[.int .i64 0, .int .u32 0, .int .i64 0, .int .i64 0]) (fun _ => by kernel_rfl) rfl (by kernel_rfl) rfl
instance Try.fv112_0 : FieldV Try.prog 112 0 3 0 := fieldV_of Try.underlying112 (by kernel_rfl)
instance Try.fv112_1 : FieldV Try.prog 112 1 23 1 := fieldV_of Try.underlying112 (by kernel_rfl)
instance Try.fv112_2 : FieldV Try.prog 112 2 3 2 := fieldV_of Try.underlying112 (by kernel_rfl)
instance Try.fv112_3 : FieldV Try.prog 112 3 3 3 := fieldV_of Try.underlying112 (by kernel_rfl)
instance Try.eqp112 : EqP Try.prog 112 [true, true, true, true] 2 := eqp_struct Try.underlying112 inferInstance rfl rfl (by kernel_rfl) ⟨by decide, rfl, [true], [true, true, true], 1, inferInstance, by decide, rfl, ⟨by decide, rfl, [true], [true, true], 1, inferInstance, by decide, rfl, ⟨by decide, rfl, [true], [true], 1, inferInstance, by decide, rfl, ⟨by decide, rfl, [true], [], 1, inferInstance, by decide, rfl, rfl⟩⟩⟩⟩
instance Try.eqg112 : EqG Try.prog 112 := ⟨by kernel_rfl⟩
instance Try.part113 : PartT Try.prog 113 (some 4) := part_agg inferInstance rfl
instance Try.bld113 : Bld Try.prog 113 [[.int .i64 0], [.int .u32 0], [.int .i64 0], [.int .i64 0]] := bld_struct Try.underlying113 (z := .agg #[.int .i64 0, .int .u32 0, .int .i64 0, .int .i64 0]) (fun _ => by kernel_rfl) rfl (by kernel_rfl) rfl
instance Try.fv113_0 : FieldV Try.prog 113 0 3 0 := fieldV_of Try.underlying113 (by kernel_rfl)
instance Try.fv113_1 : FieldV Try.prog 113 1 23 1 := fieldV_of Try.underlying113 (by kernel_rfl)
instance Try.fv113_2 : FieldV Try.prog 113 2 3 2 := fieldV_of Try.underlying113 (by kernel_rfl)
instance Try.fv113_3 : FieldV Try.prog 113 3 3 3 := fieldV_of Try.underlying113 (by kernel_rfl)
instance Try.eqp113 : EqP Try.prog 113 [true, true, true, true] 2 := eqp_struct Try.underlying113 inferInstance rfl rfl (by kernel_rfl) ⟨by decide, rfl, [true], [true, true, true], 1, inferInstance, by decide, rfl, ⟨by decide, rfl, [true], [true, true], 1, inferInstance, by decide, rfl, ⟨by decide, rfl, [true], [true], 1, inferInstance, by decide, rfl, ⟨by decide, rfl, [true], [], 1, inferInstance, by decide, rfl, rfl⟩⟩⟩⟩
instance Try.eqg113 : EqG Try.prog 113 := ⟨by kernel_rfl⟩
instance Try.part124 : PartT Try.prog 124 none := part_scalar inferInstance
instance Try.part127 : PartT Try.prog 127 (some 11) := part_agg inferInstance rfl
instance Try.bld127 : Bld Try.prog 127 [[.int .u64 0], [.int .u64 0], [.int .u32 0], [.int .u8 0], [.int .u8 0], [.int .u8 0], [.int .u8 0], [.nilFunc], [.pointer none], [.int .i32 0], [.int .i32 0]] := bld_struct Try.underlying127 (z := .agg #[.int .u64 0, .int .u64 0, .int .u32 0, .int .u8 0, .int .u8 0, .int .u8 0, .int .u8 0, .nilFunc, .pointer none, .int .i32 0, .int .i32 0]) (fun _ => by kernel_rfl) rfl (by kernel_rfl) rfl
instance Try.fv127_0 : FieldV Try.prog 127 0 12 0 := fieldV_of Try.underlying127 (by kernel_rfl)
instance Try.fv127_1 : FieldV Try.prog 127 1 12 1 := fieldV_of Try.underlying127 (by kernel_rfl)
instance Try.fv127_2 : FieldV Try.prog 127 2 23 2 := fieldV_of Try.underlying127 (by kernel_rfl)
instance Try.fv127_3 : FieldV Try.prog 127 3 121 3 := fieldV_of Try.underlying127 (by kernel_rfl)
instance Try.fv127_4 : FieldV Try.prog 127 4 5 4 := fieldV_of Try.underlying127 (by kernel_rfl)
instance Try.fv127_5 : FieldV Try.prog 127 5 5 5 := fieldV_of Try.underlying127 (by kernel_rfl)
instance Try.fv127_6 : FieldV Try.prog 127 6 122 6 := fieldV_of Try.underlying127 (by kernel_rfl)
instance Try.fv127_7 : FieldV Try.prog 127 7 123 7 := fieldV_of Try.underlying127 (by kernel_rfl)
instance Try.fv127_8 : FieldV Try.prog 127 8 124 8 := fieldV_of Try.underlying127 (by kernel_rfl)
instance Try.fv127_9 : FieldV Try.prog 127 9 125 9 := fieldV_of Try.underlying127 (by kernel_rfl)
instance Try.fv127_10 : FieldV Try.prog 127 10 126 10 := fieldV_of Try.underlying127 (by kernel_rfl)
instance Try.ent3 : Enters Try.prog 3 := enters_of Try.func3 rfl (by kernel_rfl)
instance Try.ent4 : Enters Try.prog 4 := enters_of Try.func4 rfl (by kernel_rfl)
instance Try.ent5 : Enters Try.prog 5 := enters_of Try.func5 rfl (by kernel_rfl)
instance Try.ent6 : Enters Try.prog 6 := enters_of Try.func6 rfl (by kernel_rfl)
instance Try.ent7 : Enters Try.prog 7 := enters_of Try.func7 rfl (by kernel_rfl)
instance Try.ent8 : Enters Try.prog 8 := enters_of Try.func8 rfl (by kernel_rfl)
instance Try.ent9 : Enters Try.prog 9 := enters_of Try.func9 rfl (by kernel_rfl)
instance Try.ent10 : Enters Try.prog 10 := enters_of Try.func10 rfl (by kernel_rfl)
instance Try.ent11 : Enters Try.prog 11 := enters_of Try.func11 rfl (by kernel_rfl)
instance Try.ent12 : Enters Try.prog 12 := enters_of Try.func12 rfl (by kernel_rfl)
instance Try.ent13 : Enters Try.prog 13 := enters_of Try.func13 rfl (by kernel_rfl)
instance Try.ent14 : Enters Try.prog 14 := enters_of Try.func14 rfl (by kernel_rfl)
instance Try.ent15 : Enters Try.prog 15 := enters_of Try.func15 rfl (by kernel_rfl)
instance Try.ent16 : Enters Try.prog 16 := enters_of Try.func16 rfl (by kernel_rfl)
instance Try.ent17 : Enters Try.prog 17 := enters_of Try.func17 rfl (by kernel_rfl)
instance Try.ent18 : Enters Try.prog 18 := enters_of Try.func18 rfl (by kernel_rfl)
instance Try.ent19 : Enters Try.prog 19 := enters_of Try.func19 rfl (by kernel_rfl)
instance Try.ent20 : Enters Try.prog 20 := enters_of Try.func20 rfl (by kernel_rfl)
instance Try.ent21 : Enters Try.prog 21 := enters_of Try.func21 rfl (by kernel_rfl)
instance Try.ent22 : Enters Try.prog 22 := enters_of Try.func22 rfl (by kernel_rfl)
instance Try.ent23 : Enters Try.prog 23 := enters_of Try.func23 rfl (by kernel_rfl)
instance Try.ent24 : Enters Try.prog 24 := enters_of Try.func24 rfl (by kernel_rfl)
instance Try.ent25 : Enters Try.prog 25 := enters_of Try.func25 rfl (by kernel_rfl)
instance Try.ent26 : Enters Try.prog 26 := enters_of Try.func26 rfl (by kernel_rfl)
instance Try.ent27 : Enters Try.prog 27 := enters_of Try.func27 rfl (by kernel_rfl)
instance Try.ent28 : Enters Try.prog 28 := enters_of Try.func28 rfl (by kernel_rfl)
instance Try.ent29 : Enters Try.prog 29 := enters_of Try.func29 rfl (by kernel_rfl)
instance Try.ent30 : Enters Try.prog 30 := enters_of Try.func30 rfl (by kernel_rfl)
instance Try.ent31 : Enters Try.prog 31 := enters_of Try.func31 rfl (by kernel_rfl)
instance Try.ent32 : Enters Try.prog 32 := enters_of Try.func32 rfl (by kernel_rfl)
instance Try.ent33 : Enters Try.prog 33 := enters_of Try.func33 rfl (by kernel_rfl)
instance Try.ent34 : Enters Try.prog 34 := enters_of Try.func34 rfl (by kernel_rfl)
instance Try.ent35 : Enters Try.prog 35 := enters_of Try.func35 rfl (by kernel_rfl)
instance Try.ent36 : Enters Try.prog 36 := enters_of Try.func36 rfl (by kernel_rfl)
instance Try.ent37 : Enters Try.prog 37 := enters_of Try.func37 rfl (by kernel_rfl)
instance Try.ent38 : Enters Try.prog 38 := enters_of Try.func38 rfl (by kernel_rfl)
instance Try.ent39 : Enters Try.prog 39 := enters_of Try.func39 rfl (by kernel_rfl)
instance Try.ent40 : Enters Try.prog 40 := enters_of Try.func40 rfl (by kernel_rfl)
instance Try.ent41 : Enters Try.prog 41 := enters_of Try.func41 rfl (by kernel_rfl)
instance Try.ent42 : Enters Try.prog 42 := enters_of Try.func42 rfl (by kernel_rfl)
instance Try.ent43 : Enters Try.prog 43 := enters_of Try.func43 rfl (by kernel_rfl)
instance Try.ent44 : Enters Try.prog 44 := enters_of Try.func44 rfl (by kernel_rfl)
instance Try.ent45 : Enters Try.prog 45 := enters_of Try.func45 rfl (by kernel_rfl)
instance Try.ent46 : Enters Try.prog 46 := enters_of Try.func46 rfl (by kernel_rfl)
instance Try.ent47 : Enters Try.prog 47 := enters_of Try.func47 rfl (by kernel_rfl)
instance Try.ent48 : Enters Try.prog 48 := enters_of Try.func48 rfl (by kernel_rfl)
instance Try.ent49 : Enters Try.prog 49 := enters_of Try.func49 rfl (by kernel_rfl)
instance Try.ent50 : Enters Try.prog 50 := enters_of Try.func50 rfl (by kernel_rfl)
instance Try.ent51 : Enters Try.prog 51 := enters_of Try.func51 rfl (by kernel_rfl)
instance Try.ent52 : Enters Try.prog 52 := enters_of Try.func52 rfl (by kernel_rfl)
instance Try.ent53 : Enters Try.prog 53 := enters_of Try.func53 rfl (by kernel_rfl)
instance Try.ent54 : Enters Try.prog 54 := enters_of Try.func54 rfl (by kernel_rfl)
instance Try.ent55 : Enters Try.prog 55 := enters_of Try.func55 rfl (by kernel_rfl)
instance Try.ent56 : Enters Try.prog 56 := enters_of Try.func56 rfl (by kernel_rfl)
instance Try.ent57 : Enters Try.prog 57 := enters_of Try.func57 rfl (by kernel_rfl)
instance Try.ent58 : Enters Try.prog 58 := enters_of Try.func58 rfl (by kernel_rfl)
instance Try.ent59 : Enters Try.prog 59 := enters_of Try.func59 rfl (by kernel_rfl)
instance Try.ent60 : Enters Try.prog 60 := enters_of Try.func60 rfl (by kernel_rfl)
instance Try.ent61 : Enters Try.prog 61 := enters_of Try.func61 rfl (by kernel_rfl)
instance Try.ent62 : Enters Try.prog 62 := enters_of Try.func62 rfl (by kernel_rfl)
instance Try.ent63 : Enters Try.prog 63 := enters_of Try.func63 rfl (by kernel_rfl)
instance Try.ent64 : Enters Try.prog 64 := enters_of Try.func64 rfl (by kernel_rfl)
end Go.Proofs
