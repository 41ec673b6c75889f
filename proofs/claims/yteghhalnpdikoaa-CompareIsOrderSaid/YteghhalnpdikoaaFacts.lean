/-
  Facts on the types and functions of the translation that the walks use: sizes, places of fields, zero values; that a call enters the function. Written by a program (wip/gen.py).
-/
import Derived.Test.YteghhalnpdikoaaVc
import Derived.Test.YteghhalnpdikoaaChecked
namespace Go.Proofs
open Go.Vc
theorem Try.follows : Try.prog.follows .mixedOrders = true := by kernel_rfl
instance Try.uty2 : UTy Try.prog 2 (.int .i64) := ⟨Try.underlying2⟩
instance Try.sca2 : Scalar Try.prog 2 := scalar_of Try.underlying2 rfl (by kernel_rfl)
instance Try.zero2 : Zero Try.prog 2 [.int .i64 0] := ⟨.int .i64 0, fun _ => by kernel_rfl, rfl⟩
instance Try.uty3 : UTy Try.prog 3 (.int .i64) := ⟨Try.underlying3⟩
instance Try.sca3 : Scalar Try.prog 3 := scalar_of Try.underlying3 rfl (by kernel_rfl)
instance Try.zero3 : Zero Try.prog 3 [.int .i64 0] := ⟨.int .i64 0, fun _ => by kernel_rfl, rfl⟩
instance Try.uty4 : UTy Try.prog 4 .bool := ⟨Try.underlying4⟩
instance Try.sca4 : Scalar Try.prog 4 := scalar_of Try.underlying4 rfl (by kernel_rfl)
instance Try.zero4 : Zero Try.prog 4 [.bool false] := ⟨.bool false, fun _ => by kernel_rfl, rfl⟩
instance Try.uty5 : UTy Try.prog 5 (.int .u8) := ⟨Try.underlying5⟩
instance Try.sca5 : Scalar Try.prog 5 := scalar_of Try.underlying5 rfl (by kernel_rfl)
instance Try.zero5 : Zero Try.prog 5 [.int .u8 0] := ⟨.int .u8 0, fun _ => by kernel_rfl, rfl⟩
instance Try.uty9 : UTy Try.prog 9 .string := ⟨Try.underlying9⟩
instance Try.sca9 : Scalar Try.prog 9 := scalar_of Try.underlying9 rfl (by kernel_rfl)
instance Try.zero9 : Zero Try.prog 9 [.string .empty] := ⟨.string .empty, fun _ => by kernel_rfl, rfl⟩
instance Try.uty12 : UTy Try.prog 12 (.int .u64) := ⟨Try.underlying12⟩
instance Try.sca12 : Scalar Try.prog 12 := scalar_of Try.underlying12 rfl (by kernel_rfl)
instance Try.zero12 : Zero Try.prog 12 [.int .u64 0] := ⟨.int .u64 0, fun _ => by kernel_rfl, rfl⟩
instance Try.uty15 : UTy Try.prog 15 (.pointer 163) := ⟨Try.underlying15⟩
instance Try.sca15 : Scalar Try.prog 15 := scalar_of Try.underlying15 rfl (by kernel_rfl)
instance Try.zero15 : Zero Try.prog 15 [.pointer none] := ⟨.pointer none, fun _ => by kernel_rfl, rfl⟩
instance Try.uty16 : UTy Try.prog 16 (.pointer 166) := ⟨Try.underlying16⟩
instance Try.sca16 : Scalar Try.prog 16 := scalar_of Try.underlying16 rfl (by kernel_rfl)
instance Try.zero16 : Zero Try.prog 16 [.pointer none] := ⟨.pointer none, fun _ => by kernel_rfl, rfl⟩
instance Try.uty17 : UTy Try.prog 17 (.pointer 174) := ⟨Try.underlying17⟩
instance Try.sca17 : Scalar Try.prog 17 := scalar_of Try.underlying17 rfl (by kernel_rfl)
instance Try.zero17 : Zero Try.prog 17 [.pointer none] := ⟨.pointer none, fun _ => by kernel_rfl, rfl⟩
instance Try.uty21 : UTy Try.prog 21 (.int .i32) := ⟨Try.underlying21⟩
instance Try.sca21 : Scalar Try.prog 21 := scalar_of Try.underlying21 rfl (by kernel_rfl)
instance Try.zero21 : Zero Try.prog 21 [.int .i32 0] := ⟨.int .i32 0, fun _ => by kernel_rfl, rfl⟩
instance Try.uty22 : UTy Try.prog 22 (.slice 72) := ⟨Try.underlying22⟩
instance Try.sca22 : Scalar Try.prog 22 := scalar_of Try.underlying22 rfl (by kernel_rfl)
theorem Try.erow22 : (Try.prog.info? 72).map (fun i => (i.zero, i.size, i.bytes)) = some (some (.agg #[.int .i64 0, .int .i64 0]), 2, 16) := by kernel_rfl
instance Try.elem22 : Elem Try.prog 22 72 2 16 := elem_of Try.underlying22 Try.erow22 rfl
instance Try.zero22 : Zero Try.prog 22 [.slice none 0 0] := ⟨.slice none 0 0, fun _ => by kernel_rfl, rfl⟩
instance Try.uty23 : UTy Try.prog 23 (.int .u64) := ⟨Try.underlying23⟩
instance Try.sca23 : Scalar Try.prog 23 := scalar_of Try.underlying23 rfl (by kernel_rfl)
instance Try.zero23 : Zero Try.prog 23 [.int .u64 0] := ⟨.int .u64 0, fun _ => by kernel_rfl, rfl⟩
instance Try.uty25 : UTy Try.prog 25 (.pointer 84) := ⟨Try.underlying25⟩
instance Try.sca25 : Scalar Try.prog 25 := scalar_of Try.underlying25 rfl (by kernel_rfl)
instance Try.zero25 : Zero Try.prog 25 [.pointer none] := ⟨.pointer none, fun _ => by kernel_rfl, rfl⟩
instance Try.uty26 : UTy Try.prog 26 (.int .i64) := ⟨Try.underlying26⟩
instance Try.sca26 : Scalar Try.prog 26 := scalar_of Try.underlying26 rfl (by kernel_rfl)
instance Try.zero26 : Zero Try.prog 26 [.int .i64 0] := ⟨.int .i64 0, fun _ => by kernel_rfl, rfl⟩
instance Try.uty30 : UTy Try.prog 30 (.int .u32) := ⟨Try.underlying30⟩
instance Try.sca30 : Scalar Try.prog 30 := scalar_of Try.underlying30 rfl (by kernel_rfl)
instance Try.zero30 : Zero Try.prog 30 [.int .u32 0] := ⟨.int .u32 0, fun _ => by kernel_rfl, rfl⟩
instance Try.uty42 : UTy Try.prog 42 (.slice 104) := ⟨Try.underlying42⟩
instance Try.sca42 : Scalar Try.prog 42 := scalar_of Try.underlying42 rfl (by kernel_rfl)
theorem Try.erow42 : (Try.prog.info? 104).map (fun i => (i.zero, i.size, i.bytes)) = some (some (.agg #[.bool false, .int .i64 0, .int .u32 0, .int .i64 0, .int .i64 0, .int .u32 0, .int .u32 0, .int .i64 0, .int .i64 0, .int .i64 0, .int .i64 0]), 11, 80) := by kernel_rfl
instance Try.elem42 : Elem Try.prog 42 104 11 80 := elem_of Try.underlying42 Try.erow42 rfl
instance Try.zero42 : Zero Try.prog 42 [.slice none 0 0] := ⟨.slice none 0 0, fun _ => by kernel_rfl, rfl⟩
instance Try.uty43 : UTy Try.prog 43 (.slice 30) := ⟨Try.underlying43⟩
instance Try.sca43 : Scalar Try.prog 43 := scalar_of Try.underlying43 rfl (by kernel_rfl)
theorem Try.erow43 : (Try.prog.info? 30).map (fun i => (i.zero, i.size, i.bytes)) = some (some (.int .u32 0), 1, 4) := by kernel_rfl
instance Try.elem43 : Elem Try.prog 43 30 1 4 := elem_of Try.underlying43 Try.erow43 rfl
instance Try.zero43 : Zero Try.prog 43 [.slice none 0 0] := ⟨.slice none 0 0, fun _ => by kernel_rfl, rfl⟩
instance Try.agg44 : Agg Try.prog 44 2 := agg_of Try.underlying44 rfl (by kernel_rfl)
instance Try.fld44_0 : FieldOff Try.prog 44 0 0 := field_of (m := 1) Try.underlying44 (by kernel_rfl) rfl
instance Try.fld44_1 : FieldOff Try.prog 44 1 1 := field_of (m := 1) Try.underlying44 (by kernel_rfl) rfl
instance Try.zero44 : Zero Try.prog 44 [.slice none 0 0, .slice none 0 0] := ⟨.agg #[.slice none 0 0, .slice none 0 0], fun _ => by kernel_rfl, rfl⟩
instance Try.agg45 : Agg Try.prog 45 2 := agg_of Try.underlying45 rfl (by kernel_rfl)
instance Try.fld45_0 : FieldOff Try.prog 45 0 0 := field_of (m := 1) Try.underlying45 (by kernel_rfl) rfl
instance Try.fld45_1 : FieldOff Try.prog 45 1 1 := field_of (m := 1) Try.underlying45 (by kernel_rfl) rfl
instance Try.zero45 : Zero Try.prog 45 [.slice none 0 0, .slice none 0 0] := ⟨.agg #[.slice none 0 0, .slice none 0 0], fun _ => by kernel_rfl, rfl⟩
instance Try.agg51 : Agg Try.prog 51 4 := agg_of Try.underlying51 rfl (by kernel_rfl)
instance Try.fld51_0 : FieldOff Try.prog 51 0 0 := field_of (m := 1) Try.underlying51 (by kernel_rfl) rfl
instance Try.fld51_1 : FieldOff Try.prog 51 1 1 := field_of (m := 1) Try.underlying51 (by kernel_rfl) rfl
instance Try.fld51_2 : FieldOff Try.prog 51 2 2 := field_of (m := 1) Try.underlying51 (by kernel_rfl) rfl
instance Try.fld51_3 : FieldOff Try.prog 51 3 3 := field_of (m := 1) Try.underlying51 (by kernel_rfl) rfl
instance Try.zero51 : Zero Try.prog 51 [.int .i64 0, .int .i64 0, .int .i64 0, .bool false] := ⟨.agg #[.int .i64 0, .int .i64 0, .int .i64 0, .bool false], fun _ => by kernel_rfl, rfl⟩
instance Try.agg52 : Agg Try.prog 52 4 := agg_of Try.underlying52 rfl (by kernel_rfl)
instance Try.fld52_0 : FieldOff Try.prog 52 0 0 := field_of (m := 1) Try.underlying52 (by kernel_rfl) rfl
instance Try.fld52_1 : FieldOff Try.prog 52 1 1 := field_of (m := 1) Try.underlying52 (by kernel_rfl) rfl
instance Try.fld52_2 : FieldOff Try.prog 52 2 2 := field_of (m := 1) Try.underlying52 (by kernel_rfl) rfl
instance Try.fld52_3 : FieldOff Try.prog 52 3 3 := field_of (m := 1) Try.underlying52 (by kernel_rfl) rfl
instance Try.zero52 : Zero Try.prog 52 [.int .i64 0, .int .i64 0, .int .i64 0, .bool false] := ⟨.agg #[.int .i64 0, .int .i64 0, .int .i64 0, .bool false], fun _ => by kernel_rfl, rfl⟩
instance Try.uty53 : UTy Try.prog 53 (.slice 5) := ⟨Try.underlying53⟩
instance Try.sca53 : Scalar Try.prog 53 := scalar_of Try.underlying53 rfl (by kernel_rfl)
theorem Try.erow53 : (Try.prog.info? 5).map (fun i => (i.zero, i.size, i.bytes)) = some (some (.int .u8 0), 1, 1) := by kernel_rfl
instance Try.elem53 : Elem Try.prog 53 5 1 1 := elem_of Try.underlying53 Try.erow53 rfl
instance Try.zero53 : Zero Try.prog 53 [.slice none 0 0] := ⟨.slice none 0 0, fun _ => by kernel_rfl, rfl⟩
instance Try.uty64 : UTy Try.prog 64 (.slice 53) := ⟨Try.underlying64⟩
instance Try.sca64 : Scalar Try.prog 64 := scalar_of Try.underlying64 rfl (by kernel_rfl)
theorem Try.erow64 : (Try.prog.info? 53).map (fun i => (i.zero, i.size, i.bytes)) = some (some (.slice none 0 0), 1, 24) := by kernel_rfl
instance Try.elem64 : Elem Try.prog 64 53 1 24 := elem_of Try.underlying64 Try.erow64 rfl
instance Try.zero64 : Zero Try.prog 64 [.slice none 0 0] := ⟨.slice none 0 0, fun _ => by kernel_rfl, rfl⟩
instance Try.agg71 : Agg Try.prog 71 2 := agg_of Try.underlying71 rfl (by kernel_rfl)
instance Try.fld71_0 : FieldOff Try.prog 71 0 0 := field_of (m := 1) Try.underlying71 (by kernel_rfl) rfl
instance Try.fld71_1 : FieldOff Try.prog 71 1 1 := field_of (m := 1) Try.underlying71 (by kernel_rfl) rfl
instance Try.zero71 : Zero Try.prog 71 [.int .i64 0, .int .i64 0] := ⟨.agg #[.int .i64 0, .int .i64 0], fun _ => by kernel_rfl, rfl⟩
instance Try.agg72 : Agg Try.prog 72 2 := agg_of Try.underlying72 rfl (by kernel_rfl)
instance Try.fld72_0 : FieldOff Try.prog 72 0 0 := field_of (m := 1) Try.underlying72 (by kernel_rfl) rfl
instance Try.fld72_1 : FieldOff Try.prog 72 1 1 := field_of (m := 1) Try.underlying72 (by kernel_rfl) rfl
instance Try.zero72 : Zero Try.prog 72 [.int .i64 0, .int .i64 0] := ⟨.agg #[.int .i64 0, .int .i64 0], fun _ => by kernel_rfl, rfl⟩
instance Try.uty78 : UTy Try.prog 78 (.pointer 129) := ⟨Try.underlying78⟩
instance Try.sca78 : Scalar Try.prog 78 := scalar_of Try.underlying78 rfl (by kernel_rfl)
instance Try.zero78 : Zero Try.prog 78 [.pointer none] := ⟨.pointer none, fun _ => by kernel_rfl, rfl⟩
instance Try.uty81 : UTy Try.prog 81 (.slice 102) := ⟨Try.underlying81⟩
instance Try.sca81 : Scalar Try.prog 81 := scalar_of Try.underlying81 rfl (by kernel_rfl)
theorem Try.erow81 : (Try.prog.info? 102).map (fun i => (i.zero, i.size, i.bytes)) = some (some (.agg #[.int .i64 0, .int .i64 0, .int .u32 0, .int .u32 0, .int .i64 0, .int .i64 0, .int .i64 0, .int .i64 0]), 8, 56) := by kernel_rfl
instance Try.elem81 : Elem Try.prog 81 102 8 56 := elem_of Try.underlying81 Try.erow81 rfl
instance Try.zero81 : Zero Try.prog 81 [.slice none 0 0] := ⟨.slice none 0 0, fun _ => by kernel_rfl, rfl⟩
instance Try.uty82 : UTy Try.prog 82 (.slice 3) := ⟨Try.underlying82⟩
instance Try.sca82 : Scalar Try.prog 82 := scalar_of Try.underlying82 rfl (by kernel_rfl)
theorem Try.erow82 : (Try.prog.info? 3).map (fun i => (i.zero, i.size, i.bytes)) = some (some (.int .i64 0), 1, 8) := by kernel_rfl
instance Try.elem82 : Elem Try.prog 82 3 1 8 := elem_of Try.underlying82 Try.erow82 rfl
instance Try.zero82 : Zero Try.prog 82 [.slice none 0 0] := ⟨.slice none 0 0, fun _ => by kernel_rfl, rfl⟩
instance Try.agg83 : Agg Try.prog 83 4 := agg_of Try.underlying83 rfl (by kernel_rfl)
instance Try.fld83_0 : FieldOff Try.prog 83 0 0 := field_of (m := 1) Try.underlying83 (by kernel_rfl) rfl
instance Try.fld83_1 : FieldOff Try.prog 83 1 1 := field_of (m := 1) Try.underlying83 (by kernel_rfl) rfl
instance Try.fld83_2 : FieldOff Try.prog 83 2 2 := field_of (m := 1) Try.underlying83 (by kernel_rfl) rfl
instance Try.fld83_3 : FieldOff Try.prog 83 3 3 := field_of (m := 1) Try.underlying83 (by kernel_rfl) rfl
instance Try.zero83 : Zero Try.prog 83 [.pointer none, .slice none 0 0, .slice none 0 0, .int .u64 0] := ⟨.agg #[.pointer none, .slice none 0 0, .slice none 0 0, .int .u64 0], fun _ => by kernel_rfl, rfl⟩
instance Try.agg84 : Agg Try.prog 84 4 := agg_of Try.underlying84 rfl (by kernel_rfl)
instance Try.fld84_0 : FieldOff Try.prog 84 0 0 := field_of (m := 1) Try.underlying84 (by kernel_rfl) rfl
instance Try.fld84_1 : FieldOff Try.prog 84 1 1 := field_of (m := 1) Try.underlying84 (by kernel_rfl) rfl
instance Try.fld84_2 : FieldOff Try.prog 84 2 2 := field_of (m := 1) Try.underlying84 (by kernel_rfl) rfl
instance Try.fld84_3 : FieldOff Try.prog 84 3 3 := field_of (m := 1) Try.underlying84 (by kernel_rfl) rfl
instance Try.zero84 : Zero Try.prog 84 [.pointer none, .slice none 0 0, .slice none 0 0, .int .u64 0] := ⟨.agg #[.pointer none, .slice none 0 0, .slice none 0 0, .int .u64 0], fun _ => by kernel_rfl, rfl⟩
instance Try.agg91 : Agg Try.prog 91 7 := agg_of Try.underlying91 rfl (by kernel_rfl)
instance Try.fld91_0 : FieldOff Try.prog 91 0 0 := field_of (m := 1) Try.underlying91 (by kernel_rfl) rfl
instance Try.fld91_1 : FieldOff Try.prog 91 1 1 := field_of (m := 1) Try.underlying91 (by kernel_rfl) rfl
instance Try.fld91_2 : FieldOff Try.prog 91 2 2 := field_of (m := 1) Try.underlying91 (by kernel_rfl) rfl
instance Try.fld91_3 : FieldOff Try.prog 91 3 3 := field_of (m := 1) Try.underlying91 (by kernel_rfl) rfl
instance Try.fld91_4 : FieldOff Try.prog 91 4 4 := field_of (m := 1) Try.underlying91 (by kernel_rfl) rfl
instance Try.fld91_5 : FieldOff Try.prog 91 5 5 := field_of (m := 1) Try.underlying91 (by kernel_rfl) rfl
instance Try.fld91_6 : FieldOff Try.prog 91 6 6 := field_of (m := 1) Try.underlying91 (by kernel_rfl) rfl
instance Try.zero91 : Zero Try.prog 91 [.int .i64 0, .int .i64 0, .int .i64 0, .bool false, .bool false, .bool false, .bool false] := ⟨.agg #[.int .i64 0, .int .i64 0, .int .i64 0, .bool false, .bool false, .bool false, .bool false], fun _ => by kernel_rfl, rfl⟩
instance Try.agg92 : Agg Try.prog 92 7 := agg_of Try.underlying92 rfl (by kernel_rfl)
instance Try.fld92_0 : FieldOff Try.prog 92 0 0 := field_of (m := 1) Try.underlying92 (by kernel_rfl) rfl
instance Try.fld92_1 : FieldOff Try.prog 92 1 1 := field_of (m := 1) Try.underlying92 (by kernel_rfl) rfl
instance Try.fld92_2 : FieldOff Try.prog 92 2 2 := field_of (m := 1) Try.underlying92 (by kernel_rfl) rfl
instance Try.fld92_3 : FieldOff Try.prog 92 3 3 := field_of (m := 1) Try.underlying92 (by kernel_rfl) rfl
instance Try.fld92_4 : FieldOff Try.prog 92 4 4 := field_of (m := 1) Try.underlying92 (by kernel_rfl) rfl
instance Try.fld92_5 : FieldOff Try.prog 92 5 5 := field_of (m := 1) Try.underlying92 (by kernel_rfl) rfl
instance Try.fld92_6 : FieldOff Try.prog 92 6 6 := field_of (m := 1) Try.underlying92 (by kernel_rfl) rfl
instance Try.zero92 : Zero Try.prog 92 [.int .i64 0, .int .i64 0, .int .i64 0, .bool false, .bool false, .bool false, .bool false] := ⟨.agg #[.int .i64 0, .int .i64 0, .int .i64 0, .bool false, .bool false, .bool false, .bool false], fun _ => by kernel_rfl, rfl⟩
instance Try.agg101 : Agg Try.prog 101 8 := agg_of Try.underlying101 rfl (by kernel_rfl)
instance Try.fld101_0 : FieldOff Try.prog 101 0 0 := field_of (m := 1) Try.underlying101 (by kernel_rfl) rfl
instance Try.fld101_1 : FieldOff Try.prog 101 1 1 := field_of (m := 1) Try.underlying101 (by kernel_rfl) rfl
instance Try.fld101_2 : FieldOff Try.prog 101 2 2 := field_of (m := 1) Try.underlying101 (by kernel_rfl) rfl
instance Try.fld101_3 : FieldOff Try.prog 101 3 3 := field_of (m := 1) Try.underlying101 (by kernel_rfl) rfl
instance Try.fld101_4 : FieldOff Try.prog 101 4 4 := field_of (m := 1) Try.underlying101 (by kernel_rfl) rfl
instance Try.fld101_5 : FieldOff Try.prog 101 5 5 := field_of (m := 1) Try.underlying101 (by kernel_rfl) rfl
instance Try.fld101_6 : FieldOff Try.prog 101 6 6 := field_of (m := 1) Try.underlying101 (by kernel_rfl) rfl
instance Try.fld101_7 : FieldOff Try.prog 101 7 7 := field_of (m := 1) Try.underlying101 (by kernel_rfl) rfl
instance Try.zero101 : Zero Try.prog 101 [.int .i64 0, .int .i64 0, .int .u32 0, .int .u32 0, .int .i64 0, .int .i64 0, .int .i64 0, .int .i64 0] := ⟨.agg #[.int .i64 0, .int .i64 0, .int .u32 0, .int .u32 0, .int .i64 0, .int .i64 0, .int .i64 0, .int .i64 0], fun _ => by kernel_rfl, rfl⟩
instance Try.agg102 : Agg Try.prog 102 8 := agg_of Try.underlying102 rfl (by kernel_rfl)
instance Try.fld102_0 : FieldOff Try.prog 102 0 0 := field_of (m := 1) Try.underlying102 (by kernel_rfl) rfl
instance Try.fld102_1 : FieldOff Try.prog 102 1 1 := field_of (m := 1) Try.underlying102 (by kernel_rfl) rfl
instance Try.fld102_2 : FieldOff Try.prog 102 2 2 := field_of (m := 1) Try.underlying102 (by kernel_rfl) rfl
instance Try.fld102_3 : FieldOff Try.prog 102 3 3 := field_of (m := 1) Try.underlying102 (by kernel_rfl) rfl
instance Try.fld102_4 : FieldOff Try.prog 102 4 4 := field_of (m := 1) Try.underlying102 (by kernel_rfl) rfl
instance Try.fld102_5 : FieldOff Try.prog 102 5 5 := field_of (m := 1) Try.underlying102 (by kernel_rfl) rfl
instance Try.fld102_6 : FieldOff Try.prog 102 6 6 := field_of (m := 1) Try.underlying102 (by kernel_rfl) rfl
instance Try.fld102_7 : FieldOff Try.prog 102 7 7 := field_of (m := 1) Try.underlying102 (by kernel_rfl) rfl
instance Try.zero102 : Zero Try.prog 102 [.int .i64 0, .int .i64 0, .int .u32 0, .int .u32 0, .int .i64 0, .int .i64 0, .int .i64 0, .int .i64 0] := ⟨.agg #[.int .i64 0, .int .i64 0, .int .u32 0, .int .u32 0, .int .i64 0, .int .i64 0, .int .i64 0, .int .i64 0], fun _ => by kernel_rfl, rfl⟩
instance Try.agg103 : Agg Try.prog 103 11 := agg_of Try.underlying103 rfl (by kernel_rfl)
instance Try.fld103_0 : FieldOff Try.prog 103 0 0 := field_of (m := 1) Try.underlying103 (by kernel_rfl) rfl
instance Try.fld103_1 : FieldOff Try.prog 103 1 1 := field_of (m := 1) Try.underlying103 (by kernel_rfl) rfl
instance Try.fld103_2 : FieldOff Try.prog 103 2 2 := field_of (m := 1) Try.underlying103 (by kernel_rfl) rfl
instance Try.fld103_3 : FieldOff Try.prog 103 3 3 := field_of (m := 8) Try.underlying103 (by kernel_rfl) rfl
instance Try.zero103 : Zero Try.prog 103 [.bool false, .int .i64 0, .int .u32 0, .int .i64 0, .int .i64 0, .int .u32 0, .int .u32 0, .int .i64 0, .int .i64 0, .int .i64 0, .int .i64 0] := ⟨.agg #[.bool false, .int .i64 0, .int .u32 0, .int .i64 0, .int .i64 0, .int .u32 0, .int .u32 0, .int .i64 0, .int .i64 0, .int .i64 0, .int .i64 0], fun _ => by kernel_rfl, rfl⟩
instance Try.agg104 : Agg Try.prog 104 11 := agg_of Try.underlying104 rfl (by kernel_rfl)
instance Try.fld104_0 : FieldOff Try.prog 104 0 0 := field_of (m := 1) Try.underlying104 (by kernel_rfl) rfl
instance Try.fld104_1 : FieldOff Try.prog 104 1 1 := field_of (m := 1) Try.underlying104 (by kernel_rfl) rfl
instance Try.fld104_2 : FieldOff Try.prog 104 2 2 := field_of (m := 1) Try.underlying104 (by kernel_rfl) rfl
instance Try.fld104_3 : FieldOff Try.prog 104 3 3 := field_of (m := 8) Try.underlying104 (by kernel_rfl) rfl
instance Try.zero104 : Zero Try.prog 104 [.bool false, .int .i64 0, .int .u32 0, .int .i64 0, .int .i64 0, .int .u32 0, .int .u32 0, .int .i64 0, .int .i64 0, .int .i64 0, .int .i64 0] := ⟨.agg #[.bool false, .int .i64 0, .int .u32 0, .int .i64 0, .int .i64 0, .int .u32 0, .int .u32 0, .int .i64 0, .int .i64 0, .int .i64 0, .int .i64 0], fun _ => by kernel_rfl, rfl⟩
instance Try.uty127 : UTy Try.prog 127 (.slice 4) := ⟨Try.underlying127⟩
instance Try.sca127 : Scalar Try.prog 127 := scalar_of Try.underlying127 rfl (by kernel_rfl)
theorem Try.erow127 : (Try.prog.info? 4).map (fun i => (i.zero, i.size, i.bytes)) = some (some (.bool false), 1, 1) := by kernel_rfl
instance Try.elem127 : Elem Try.prog 127 4 1 1 := elem_of Try.underlying127 Try.erow127 rfl
instance Try.zero127 : Zero Try.prog 127 [.slice none 0 0] := ⟨.slice none 0 0, fun _ => by kernel_rfl, rfl⟩
instance Try.agg128 : Agg Try.prog 128 4 := agg_of Try.underlying128 rfl (by kernel_rfl)
instance Try.fld128_0 : FieldOff Try.prog 128 0 0 := field_of (m := 1) Try.underlying128 (by kernel_rfl) rfl
instance Try.fld128_1 : FieldOff Try.prog 128 1 1 := field_of (m := 1) Try.underlying128 (by kernel_rfl) rfl
instance Try.fld128_2 : FieldOff Try.prog 128 2 2 := field_of (m := 1) Try.underlying128 (by kernel_rfl) rfl
instance Try.fld128_3 : FieldOff Try.prog 128 3 3 := field_of (m := 1) Try.underlying128 (by kernel_rfl) rfl
instance Try.zero128 : Zero Try.prog 128 [.slice none 0 0, .slice none 0 0, .slice none 0 0, .int .u32 0] := ⟨.agg #[.slice none 0 0, .slice none 0 0, .slice none 0 0, .int .u32 0], fun _ => by kernel_rfl, rfl⟩
instance Try.agg129 : Agg Try.prog 129 4 := agg_of Try.underlying129 rfl (by kernel_rfl)
instance Try.fld129_0 : FieldOff Try.prog 129 0 0 := field_of (m := 1) Try.underlying129 (by kernel_rfl) rfl
instance Try.fld129_1 : FieldOff Try.prog 129 1 1 := field_of (m := 1) Try.underlying129 (by kernel_rfl) rfl
instance Try.fld129_2 : FieldOff Try.prog 129 2 2 := field_of (m := 1) Try.underlying129 (by kernel_rfl) rfl
instance Try.fld129_3 : FieldOff Try.prog 129 3 3 := field_of (m := 1) Try.underlying129 (by kernel_rfl) rfl
instance Try.zero129 : Zero Try.prog 129 [.slice none 0 0, .slice none 0 0, .slice none 0 0, .int .u32 0] := ⟨.agg #[.slice none 0 0, .slice none 0 0, .slice none 0 0, .int .u32 0], fun _ => by kernel_rfl, rfl⟩
instance Try.uty132 : UTy Try.prog 132 (.array 2 30) := ⟨Try.underlying132⟩
instance Try.agg132 : Agg Try.prog 132 2 := agg_of Try.underlying132 rfl (by kernel_rfl)
instance Try.zero132 : Zero Try.prog 132 [.int .u32 0, .int .u32 0] := ⟨.agg #[.int .u32 0, .int .u32 0], fun _ => by kernel_rfl, rfl⟩
instance Try.uty133 : UTy Try.prog 133 (.pointer 102) := ⟨Try.underlying133⟩
instance Try.sca133 : Scalar Try.prog 133 := scalar_of Try.underlying133 rfl (by kernel_rfl)
instance Try.zero133 : Zero Try.prog 133 [.pointer none] := ⟨.pointer none, fun _ => by kernel_rfl, rfl⟩
instance Try.uty136 : UTy Try.prog 136 (.slice 141) := ⟨Try.underlying136⟩
instance Try.sca136 : Scalar Try.prog 136 := scalar_of Try.underlying136 rfl (by kernel_rfl)
theorem Try.erow136 : (Try.prog.info? 141).map (fun i => (i.zero, i.size, i.bytes)) = some (some (.agg #[.int .u32 0, .int .i64 0, .int .i64 0, .int .i64 0, .bool false]), 5, 40) := by kernel_rfl
instance Try.elem136 : Elem Try.prog 136 141 5 40 := elem_of Try.underlying136 Try.erow136 rfl
instance Try.zero136 : Zero Try.prog 136 [.slice none 0 0] := ⟨.slice none 0 0, fun _ => by kernel_rfl, rfl⟩
instance Try.agg137 : Agg Try.prog 137 1 := agg_of Try.underlying137 rfl (by kernel_rfl)
instance Try.fld137_0 : FieldOff Try.prog 137 0 0 := field_of (m := 1) Try.underlying137 (by kernel_rfl) rfl
instance Try.zero137 : Zero Try.prog 137 [.slice none 0 0] := ⟨.agg #[.slice none 0 0], fun _ => by kernel_rfl, rfl⟩
instance Try.agg138 : Agg Try.prog 138 1 := agg_of Try.underlying138 rfl (by kernel_rfl)
instance Try.fld138_0 : FieldOff Try.prog 138 0 0 := field_of (m := 1) Try.underlying138 (by kernel_rfl) rfl
instance Try.zero138 : Zero Try.prog 138 [.slice none 0 0] := ⟨.agg #[.slice none 0 0], fun _ => by kernel_rfl, rfl⟩
instance Try.agg140 : Agg Try.prog 140 5 := agg_of Try.underlying140 rfl (by kernel_rfl)
instance Try.fld140_0 : FieldOff Try.prog 140 0 0 := field_of (m := 1) Try.underlying140 (by kernel_rfl) rfl
instance Try.fld140_1 : FieldOff Try.prog 140 1 1 := field_of (m := 1) Try.underlying140 (by kernel_rfl) rfl
instance Try.fld140_2 : FieldOff Try.prog 140 2 2 := field_of (m := 2) Try.underlying140 (by kernel_rfl) rfl
instance Try.fld140_3 : FieldOff Try.prog 140 3 4 := field_of (m := 1) Try.underlying140 (by kernel_rfl) rfl
instance Try.zero140 : Zero Try.prog 140 [.int .u32 0, .int .i64 0, .int .i64 0, .int .i64 0, .bool false] := ⟨.agg #[.int .u32 0, .int .i64 0, .int .i64 0, .int .i64 0, .bool false], fun _ => by kernel_rfl, rfl⟩
instance Try.agg141 : Agg Try.prog 141 5 := agg_of Try.underlying141 rfl (by kernel_rfl)
instance Try.fld141_0 : FieldOff Try.prog 141 0 0 := field_of (m := 1) Try.underlying141 (by kernel_rfl) rfl
instance Try.fld141_1 : FieldOff Try.prog 141 1 1 := field_of (m := 1) Try.underlying141 (by kernel_rfl) rfl
instance Try.fld141_2 : FieldOff Try.prog 141 2 2 := field_of (m := 2) Try.underlying141 (by kernel_rfl) rfl
instance Try.fld141_3 : FieldOff Try.prog 141 3 4 := field_of (m := 1) Try.underlying141 (by kernel_rfl) rfl
instance Try.zero141 : Zero Try.prog 141 [.int .u32 0, .int .i64 0, .int .i64 0, .int .i64 0, .bool false] := ⟨.agg #[.int .u32 0, .int .i64 0, .int .i64 0, .int .i64 0, .bool false], fun _ => by kernel_rfl, rfl⟩
instance Try.uty145 : UTy Try.prog 145 (.int .u64) := ⟨Try.underlying145⟩
instance Try.sca145 : Scalar Try.prog 145 := scalar_of Try.underlying145 rfl (by kernel_rfl)
instance Try.zero145 : Zero Try.prog 145 [.int .u64 0] := ⟨.int .u64 0, fun _ => by kernel_rfl, rfl⟩
instance Try.uty149 : UTy Try.prog 149 (.pointer 151) := ⟨Try.underlying149⟩
instance Try.sca149 : Scalar Try.prog 149 := scalar_of Try.underlying149 rfl (by kernel_rfl)
instance Try.zero149 : Zero Try.prog 149 [.pointer none] := ⟨.pointer none, fun _ => by kernel_rfl, rfl⟩
instance Try.agg150 : Agg Try.prog 150 3 := agg_of Try.underlying150 rfl (by kernel_rfl)
instance Try.fld150_0 : FieldOff Try.prog 150 0 0 := field_of (m := 1) Try.underlying150 (by kernel_rfl) rfl
instance Try.fld150_1 : FieldOff Try.prog 150 1 1 := field_of (m := 1) Try.underlying150 (by kernel_rfl) rfl
instance Try.fld150_2 : FieldOff Try.prog 150 2 2 := field_of (m := 1) Try.underlying150 (by kernel_rfl) rfl
instance Try.zero150 : Zero Try.prog 150 [.pointer none, .slice none 0 0, .int .i64 0] := ⟨.agg #[.pointer none, .slice none 0 0, .int .i64 0], fun _ => by kernel_rfl, rfl⟩
instance Try.agg151 : Agg Try.prog 151 3 := agg_of Try.underlying151 rfl (by kernel_rfl)
instance Try.fld151_0 : FieldOff Try.prog 151 0 0 := field_of (m := 1) Try.underlying151 (by kernel_rfl) rfl
instance Try.fld151_1 : FieldOff Try.prog 151 1 1 := field_of (m := 1) Try.underlying151 (by kernel_rfl) rfl
instance Try.fld151_2 : FieldOff Try.prog 151 2 2 := field_of (m := 1) Try.underlying151 (by kernel_rfl) rfl
instance Try.zero151 : Zero Try.prog 151 [.pointer none, .slice none 0 0, .int .i64 0] := ⟨.agg #[.pointer none, .slice none 0 0, .int .i64 0], fun _ => by kernel_rfl, rfl⟩
instance Try.uty153 : UTy Try.prog 153 (.pointer 138) := ⟨Try.underlying153⟩
instance Try.sca153 : Scalar Try.prog 153 := scalar_of Try.underlying153 rfl (by kernel_rfl)
instance Try.zero153 : Zero Try.prog 153 [.pointer none] := ⟨.pointer none, fun _ => by kernel_rfl, rfl⟩
instance Try.uty158 : UTy Try.prog 158 (.array 256 30) := ⟨Try.underlying158⟩
instance Try.agg158 : Agg Try.prog 158 256 := agg_of Try.underlying158 rfl (by kernel_rfl)
instance Try.uty164 : UTy Try.prog 164 (.array 0 16) := ⟨Try.underlying164⟩
instance Try.zero164 : Zero Try.prog 164 [] := ⟨.agg #[], fun _ => by kernel_rfl, rfl⟩
instance Try.uty170 : UTy Try.prog 170 (.pointer 5) := ⟨Try.underlying170⟩
instance Try.sca170 : Scalar Try.prog 170 := scalar_of Try.underlying170 rfl (by kernel_rfl)
instance Try.zero170 : Zero Try.prog 170 [.pointer none] := ⟨.pointer none, fun _ => by kernel_rfl, rfl⟩
instance Try.agg173 : Agg Try.prog 173 11 := agg_of Try.underlying173 rfl (by kernel_rfl)
instance Try.fld173_0 : FieldOff Try.prog 173 0 0 := field_of (m := 1) Try.underlying173 (by kernel_rfl) rfl
instance Try.fld173_1 : FieldOff Try.prog 173 1 1 := field_of (m := 1) Try.underlying173 (by kernel_rfl) rfl
instance Try.fld173_2 : FieldOff Try.prog 173 2 2 := field_of (m := 1) Try.underlying173 (by kernel_rfl) rfl
instance Try.fld173_3 : FieldOff Try.prog 173 3 3 := field_of (m := 1) Try.underlying173 (by kernel_rfl) rfl
instance Try.fld173_4 : FieldOff Try.prog 173 4 4 := field_of (m := 1) Try.underlying173 (by kernel_rfl) rfl
instance Try.fld173_5 : FieldOff Try.prog 173 5 5 := field_of (m := 1) Try.underlying173 (by kernel_rfl) rfl
instance Try.fld173_6 : FieldOff Try.prog 173 6 6 := field_of (m := 1) Try.underlying173 (by kernel_rfl) rfl
instance Try.fld173_7 : FieldOff Try.prog 173 7 7 := field_of (m := 1) Try.underlying173 (by kernel_rfl) rfl
instance Try.fld173_8 : FieldOff Try.prog 173 8 8 := field_of (m := 1) Try.underlying173 (by kernel_rfl) rfl
instance Try.fld173_9 : FieldOff Try.prog 173 9 9 := field_of (m := 1) Try.underlying173 (by kernel_rfl) rfl
instance Try.fld173_10 : FieldOff Try.prog 173 10 10 := field_of (m := 1) Try.underlying173 (by kernel_rfl) rfl
instance Try.zero173 : Zero Try.prog 173 [.int .u64 0, .int .u64 0, .int .u32 0, .int .u8 0, .int .u8 0, .int .u8 0, .int .u8 0, .nilFunc, .pointer none, .int .i32 0, .int .i32 0] := ⟨.agg #[.int .u64 0, .int .u64 0, .int .u32 0, .int .u8 0, .int .u8 0, .int .u8 0, .int .u8 0, .nilFunc, .pointer none, .int .i32 0, .int .i32 0], fun _ => by kernel_rfl, rfl⟩
instance Try.part2 : PartT Try.prog 2 none := part_scalar inferInstance
instance Try.eqp2 : EqP Try.prog 2 [true] 1 := eqp_int Try.underlying2 inferInstance
instance Try.part3 : PartT Try.prog 3 none := part_scalar inferInstance
instance Try.eqp3 : EqP Try.prog 3 [true] 1 := eqp_int Try.underlying3 inferInstance
instance Try.part4 : PartT Try.prog 4 none := part_scalar inferInstance
instance Try.eqp4 : EqP Try.prog 4 [false] 1 := eqp_bool Try.underlying4 inferInstance
instance Try.part5 : PartT Try.prog 5 none := part_scalar inferInstance
instance Try.eqp5 : EqP Try.prog 5 [true] 1 := eqp_int Try.underlying5 inferInstance
instance Try.part9 : PartT Try.prog 9 none := part_scalar inferInstance
instance Try.part12 : PartT Try.prog 12 none := part_scalar inferInstance
instance Try.eqp12 : EqP Try.prog 12 [true] 1 := eqp_int Try.underlying12 inferInstance
instance Try.part15 : PartT Try.prog 15 none := part_scalar inferInstance
instance Try.part16 : PartT Try.prog 16 none := part_scalar inferInstance
instance Try.part17 : PartT Try.prog 17 none := part_scalar inferInstance
instance Try.part21 : PartT Try.prog 21 none := part_scalar inferInstance
instance Try.eqp21 : EqP Try.prog 21 [true] 1 := eqp_int Try.underlying21 inferInstance
instance Try.part22 : PartT Try.prog 22 none := part_scalar inferInstance
instance Try.part23 : PartT Try.prog 23 none := part_scalar inferInstance
instance Try.eqp23 : EqP Try.prog 23 [true] 1 := eqp_int Try.underlying23 inferInstance
instance Try.part25 : PartT Try.prog 25 none := part_scalar inferInstance
instance Try.part26 : PartT Try.prog 26 none := part_scalar inferInstance
instance Try.eqp26 : EqP Try.prog 26 [true] 1 := eqp_int Try.underlying26 inferInstance
instance Try.part30 : PartT Try.prog 30 none := part_scalar inferInstance
instance Try.eqp30 : EqP Try.prog 30 [true] 1 := eqp_int Try.underlying30 inferInstance
instance Try.part42 : PartT Try.prog 42 none := part_scalar inferInstance
instance Try.part43 : PartT Try.prog 43 none := part_scalar inferInstance
instance Try.part44 : PartT Try.prog 44 (some 2) := part_agg inferInstance rfl
instance Try.bld44 : Bld Try.prog 44 [[.slice none 0 0], [.slice none 0 0]] := bld_struct Try.underlying44 (z := .agg #[.slice none 0 0, .slice none 0 0]) (fun _ => by kernel_rfl) rfl (by kernel_rfl) rfl
instance Try.fv44_0 : FieldV Try.prog 44 0 42 0 := fieldV_of Try.underlying44 (by kernel_rfl)
instance Try.fv44_1 : FieldV Try.prog 44 1 43 1 := fieldV_of Try.underlying44 (by kernel_rfl)
instance Try.part45 : PartT Try.prog 45 (some 2) := part_agg inferInstance rfl
instance Try.bld45 : Bld Try.prog 45 [[.slice none 0 0], [.slice none 0 0]] := bld_struct Try.underlying45 (z := .agg #[.slice none 0 0, .slice none 0 0]) (fun _ => by kernel_rfl) rfl (by kernel_rfl) rfl
instance Try.fv45_0 : FieldV Try.prog 45 0 42 0 := fieldV_of Try.underlying45 (by kernel_rfl)
instance Try.fv45_1 : FieldV Try.prog 45 1 43 1 := fieldV_of Try.underlying45 (by kernel_rfl)
instance Try.part51 : PartT Try.prog 51 (some 4) := part_agg inferInstance rfl
instance Try.bld51 : Bld Try.prog 51 [[.int .i64 0], [.int .i64 0], [.int .i64 0], [.bool false]] := bld_struct Try.underlying51 (z := .agg #[.int .i64 0, .int .i64 0, .int .i64 0, .bool false]) (fun _ => by kernel_rfl) rfl (by kernel_rfl) rfl
instance Try.fv51_0 : FieldV Try.prog 51 0 2 0 := fieldV_of Try.underlying51 (by kernel_rfl)
instance Try.fv51_1 : FieldV Try.prog 51 1 2 1 := fieldV_of Try.underlying51 (by kernel_rfl)
instance Try.fv51_2 : FieldV Try.prog 51 2 3 2 := fieldV_of Try.underlying51 (by kernel_rfl)
instance Try.fv51_3 : FieldV Try.prog 51 3 4 3 := fieldV_of Try.underlying51 (by kernel_rfl)
instance Try.eqp51 : EqP Try.prog 51 [true, true, true, false] 2 := eqp_struct Try.underlying51 inferInstance rfl rfl (by kernel_rfl) ⟨by decide, rfl, [true], [true, true, false], 1, inferInstance, by decide, rfl, ⟨by decide, rfl, [true], [true, false], 1, inferInstance, by decide, rfl, ⟨by decide, rfl, [true], [false], 1, inferInstance, by decide, rfl, ⟨by decide, rfl, [false], [], 1, inferInstance, by decide, rfl, rfl⟩⟩⟩⟩
instance Try.eqg51 : EqG Try.prog 51 := ⟨by kernel_rfl⟩
instance Try.part52 : PartT Try.prog 52 (some 4) := part_agg inferInstance rfl
instance Try.bld52 : Bld Try.prog 52 [[.int .i64 0], [.int .i64 0], [.int .i64 0], [.bool false]] := bld_struct Try.underlying52 (z := .agg #[.int .i64 0, .int .i64 0, .int .i64 0, .bool false]) (fun _ => by kernel_rfl) rfl (by kernel_rfl) rfl
instance Try.fv52_0 : FieldV Try.prog 52 0 2 0 := fieldV_of Try.underlying52 (by kernel_rfl)
instance Try.fv52_1 : FieldV Try.prog 52 1 2 1 := fieldV_of Try.underlying52 (by kernel_rfl)
instance Try.fv52_2 : FieldV Try.prog 52 2 3 2 := fieldV_of Try.underlying52 (by kernel_rfl)
instance Try.fv52_3 : FieldV Try.prog 52 3 4 3 := fieldV_of Try.underlying52 (by kernel_rfl)
instance Try.eqp52 : EqP Try.prog 52 [true, true, true, false] 2 := eqp_struct Try.underlying52 inferInstance rfl rfl (by kernel_rfl) ⟨by decide, rfl, [true], [true, true, false], 1, inferInstance, by decide, rfl, ⟨by decide, rfl, [true], [true, false], 1, inferInstance, by decide, rfl, ⟨by decide, rfl, [true], [false], 1, inferInstance, by decide, rfl, ⟨by decide, rfl, [false], [], 1, inferInstance, by decide, rfl, rfl⟩⟩⟩⟩
instance Try.eqg52 : EqG Try.prog 52 := ⟨by kernel_rfl⟩
instance Try.part53 : PartT Try.prog 53 none := part_scalar inferInstance
instance Try.part64 : PartT Try.prog 64 none := part_scalar inferInstance
instance Try.part71 : PartT Try.prog 71 (some 2) := part_agg inferInstance rfl
instance Try.bld71 : Bld Try.prog 71 [[.int .i64 0], [.int .i64 0]] := bld_struct Try.underlying71 (z := .agg #[.int .i64 0, .int .i64 0]) (fun _ => by kernel_rfl) rfl (by kernel_rfl) rfl
instance Try.fv71_0 : FieldV Try.prog 71 0 2 0 := fieldV_of Try.underlying71 (by kernel_rfl)
instance Try.fv71_1 : FieldV Try.prog 71 1 2 1 := fieldV_of Try.underlying71 (by kernel_rfl)
instance Try.eqp71 : EqP Try.prog 71 [true, true] 2 := eqp_struct Try.underlying71 inferInstance rfl rfl (by kernel_rfl) ⟨by decide, rfl, [true], [true], 1, inferInstance, by decide, rfl, ⟨by decide, rfl, [true], [], 1, inferInstance, by decide, rfl, rfl⟩⟩
instance Try.eqg71 : EqG Try.prog 71 := ⟨by kernel_rfl⟩
instance Try.part72 : PartT Try.prog 72 (some 2) := part_agg inferInstance rfl
instance Try.bld72 : Bld Try.prog 72 [[.int .i64 0], [.int .i64 0]] := bld_struct Try.underlying72 (z := .agg #[.int .i64 0, .int .i64 0]) (fun _ => by kernel_rfl) rfl (by kernel_rfl) rfl
instance Try.fv72_0 : FieldV Try.prog 72 0 2 0 := fieldV_of Try.underlying72 (by kernel_rfl)
instance Try.fv72_1 : FieldV Try.prog 72 1 2 1 := fieldV_of Try.underlying72 (by kernel_rfl)
instance Try.eqp72 : EqP Try.prog 72 [true, true] 2 := eqp_struct Try.underlying72 inferInstance rfl rfl (by kernel_rfl) ⟨by decide, rfl, [true], [true], 1, inferInstance, by decide, rfl, ⟨by decide, rfl, [true], [], 1, inferInstance, by decide, rfl, rfl⟩⟩
instance Try.eqg72 : EqG Try.prog 72 := ⟨by kernel_rfl⟩
instance Try.part78 : PartT Try.prog 78 none := part_scalar inferInstance
instance Try.part81 : PartT Try.prog 81 none := part_scalar inferInstance
instance Try.part82 : PartT Try.prog 82 none := part_scalar inferInstance
instance Try.part83 : PartT Try.prog 83 (some 4) := part_agg inferInstance rfl
instance Try.bld83 : Bld Try.prog 83 [[.pointer none], [.slice none 0 0], [.slice none 0 0], [.int .u64 0]] := bld_struct Try.underlying83 (z := .agg #[.pointer none, .slice none 0 0, .slice none 0 0, .int .u64 0]) (fun _ => by kernel_rfl) rfl (by kernel_rfl) rfl
instance Try.fv83_0 : FieldV Try.prog 83 0 78 0 := fieldV_of Try.underlying83 (by kernel_rfl)
instance Try.fv83_1 : FieldV Try.prog 83 1 81 1 := fieldV_of Try.underlying83 (by kernel_rfl)
instance Try.fv83_2 : FieldV Try.prog 83 2 82 2 := fieldV_of Try.underlying83 (by kernel_rfl)
instance Try.fv83_3 : FieldV Try.prog 83 3 23 3 := fieldV_of Try.underlying83 (by kernel_rfl)
instance Try.part84 : PartT Try.prog 84 (some 4) := part_agg inferInstance rfl
instance Try.bld84 : Bld Try.prog 84 [[.pointer none], [.slice none 0 0], [.slice none 0 0], [.int .u64 0]] := bld_struct Try.underlying84 (z := .agg #[.pointer none, .slice none 0 0, .slice none 0 0, .int .u64 0]) (fun _ => by kernel_rfl) rfl (by kernel_rfl) rfl
instance Try.fv84_0 : FieldV Try.prog 84 0 78 0 := fieldV_of Try.underlying84 (by kernel_rfl)
instance Try.fv84_1 : FieldV Try.prog 84 1 81 1 := fieldV_of Try.underlying84 (by kernel_rfl)
instance Try.fv84_2 : FieldV Try.prog 84 2 82 2 := fieldV_of Try.underlying84 (by kernel_rfl)
instance Try.fv84_3 : FieldV Try.prog 84 3 23 3 := fieldV_of Try.underlying84 (by kernel_rfl)
instance Try.part91 : PartT Try.prog 91 (some 7) := part_agg inferInstance rfl
instance Try.bld91 : Bld Try.prog 91 [[.int .i64 0], [.int .i64 0], [.int .i64 0], [.bool false], [.bool false], [.bool false], [.bool false]] := bld_struct Try.underlying91 (z := .agg #[.int .i64 0, .int .i64 0, .int .i64 0, .bool false, .bool false, .bool false, .bool false]) (fun _ => by kernel_rfl) rfl (by kernel_rfl) rfl
instance Try.fv91_0 : FieldV Try.prog 91 0 2 0 := fieldV_of Try.underlying91 (by kernel_rfl)
instance Try.fv91_1 : FieldV Try.prog 91 1 2 1 := fieldV_of Try.underlying91 (by kernel_rfl)
instance Try.fv91_2 : FieldV Try.prog 91 2 2 2 := fieldV_of Try.underlying91 (by kernel_rfl)
instance Try.fv91_3 : FieldV Try.prog 91 3 4 3 := fieldV_of Try.underlying91 (by kernel_rfl)
instance Try.fv91_4 : FieldV Try.prog 91 4 4 4 := fieldV_of Try.underlying91 (by kernel_rfl)
instance Try.fv91_5 : FieldV Try.prog 91 5 4 5 := fieldV_of Try.underlying91 (by kernel_rfl)
instance Try.fv91_6 : FieldV Try.prog 91 6 4 6 := fieldV_of Try.underlying91 (by kernel_rfl)
instance Try.eqp91 : EqP Try.prog 91 [true, true, true, false, false, false, false] 2 := eqp_struct Try.underlying91 inferInstance rfl rfl (by kernel_rfl) ⟨by decide, rfl, [true], [true, true, false, false, false, false], 1, inferInstance, by decide, rfl, ⟨by decide, rfl, [true], [true, false, false, false, false], 1, inferInstance, by decide, rfl, ⟨by decide, rfl, [true], [false, false, false, false], 1, inferInstance, by decide, rfl, ⟨by decide, rfl, [false], [false, false, false], 1, inferInstance, by decide, rfl, ⟨by decide, rfl, [false], [false, false], 1, inferInstance, by decide, rfl, ⟨by decide, rfl, [false], [false], 1, inferInstance, by decide, rfl, ⟨by decide, rfl, [false], [], 1, inferInstance, by decide, rfl, rfl⟩⟩⟩⟩⟩⟩⟩
instance Try.eqg91 : EqG Try.prog 91 := ⟨by kernel_rfl⟩
instance Try.part92 : PartT Try.prog 92 (some 7) := part_agg inferInstance rfl
instance Try.bld92 : Bld Try.prog 92 [[.int .i64 0], [.int .i64 0], [.int .i64 0], [.bool false], [.bool false], [.bool false], [.bool false]] := bld_struct Try.underlying92 (z := .agg #[.int .i64 0, .int .i64 0, .int .i64 0, .bool false, .bool false, .bool false, .bool false]) (fun _ => by kernel_rfl) rfl (by kernel_rfl) rfl
instance Try.fv92_0 : FieldV Try.prog 92 0 2 0 := fieldV_of Try.underlying92 (by kernel_rfl)
instance Try.fv92_1 : FieldV Try.prog 92 1 2 1 := fieldV_of Try.underlying92 (by kernel_rfl)
instance Try.fv92_2 : FieldV Try.prog 92 2 2 2 := fieldV_of Try.underlying92 (by kernel_rfl)
instance Try.fv92_3 : FieldV Try.prog 92 3 4 3 := fieldV_of Try.underlying92 (by kernel_rfl)
instance Try.fv92_4 : FieldV Try.prog 92 4 4 4 := fieldV_of Try.underlying92 (by kernel_rfl)
instance Try.fv92_5 : FieldV Try.prog 92 5 4 5 := fieldV_of Try.underlying92 (by kernel_rfl)
instance Try.fv92_6 : FieldV Try.prog 92 6 4 6 := fieldV_of Try.underlying92 (by kernel_rfl)
instance Try.eqp92 : EqP Try.prog 92 [true, true, true, false, false, false, false] 2 := eqp_struct Try.underlying92 inferInstance rfl rfl (by kernel_rfl) ⟨by decide, rfl, [true], [true, true, false, false, false, false], 1, inferInstance, by decide, rfl, ⟨by decide, rfl, [true], [true, false, false, false, false], 1, inferInstance, by decide, rfl, ⟨by decide, rfl, [true], [false, false, false, false], 1, inferInstance, by decide, rfl, ⟨by decide, rfl, [false], [false, false, false], 1, inferInstance, by decide, rfl, ⟨by decide, rfl, [false], [false, false], 1, inferInstance, by decide, rfl, ⟨by decide, rfl, [false], [false], 1, inferInstance, by decide, rfl, ⟨by decide, rfl, [false], [], 1, inferInstance, by decide, rfl, rfl⟩⟩⟩⟩⟩⟩⟩
instance Try.eqg92 : EqG Try.prog 92 := ⟨by kernel_rfl⟩
instance Try.part101 : PartT Try.prog 101 (some 8) := part_agg inferInstance rfl
instance Try.bld101 : Bld Try.prog 101 [[.int .i64 0], [.int .i64 0], [.int .u32 0], [.int .u32 0], [.int .i64 0], [.int .i64 0], [.int .i64 0], [.int .i64 0]] := bld_struct Try.underlying101 (z := .agg #[.int .i64 0, .int .i64 0, .int .u32 0, .int .u32 0, .int .i64 0, .int .i64 0, .int .i64 0, .int .i64 0]) (fun _ => by kernel_rfl) rfl (by kernel_rfl) rfl
instance Try.fv101_0 : FieldV Try.prog 101 0 2 0 := fieldV_of Try.underlying101 (by kernel_rfl)
instance Try.fv101_1 : FieldV Try.prog 101 1 2 1 := fieldV_of Try.underlying101 (by kernel_rfl)
instance Try.fv101_2 : FieldV Try.prog 101 2 30 2 := fieldV_of Try.underlying101 (by kernel_rfl)
instance Try.fv101_3 : FieldV Try.prog 101 3 30 3 := fieldV_of Try.underlying101 (by kernel_rfl)
instance Try.fv101_4 : FieldV Try.prog 101 4 3 4 := fieldV_of Try.underlying101 (by kernel_rfl)
instance Try.fv101_5 : FieldV Try.prog 101 5 2 5 := fieldV_of Try.underlying101 (by kernel_rfl)
instance Try.fv101_6 : FieldV Try.prog 101 6 2 6 := fieldV_of Try.underlying101 (by kernel_rfl)
instance Try.fv101_7 : FieldV Try.prog 101 7 2 7 := fieldV_of Try.underlying101 (by kernel_rfl)
instance Try.eqp101 : EqP Try.prog 101 [true, true, true, true, true, true, true, true] 2 := eqp_struct Try.underlying101 inferInstance rfl rfl (by kernel_rfl) ⟨by decide, rfl, [true], [true, true, true, true, true, true, true], 1, inferInstance, by decide, rfl, ⟨by decide, rfl, [true], [true, true, true, true, true, true], 1, inferInstance, by decide, rfl, ⟨by decide, rfl, [true], [true, true, true, true, true], 1, inferInstance, by decide, rfl, ⟨by decide, rfl, [true], [true, true, true, true], 1, inferInstance, by decide, rfl, ⟨by decide, rfl, [true], [true, true, true], 1, inferInstance, by decide, rfl, ⟨by decide, rfl, [true], [true, true], 1, inferInstance, by decide, rfl, ⟨by decide, rfl, [true], [true], 1, inferInstance, by decide, rfl, ⟨by decide, rfl, [true], [], 1, inferInstance, by decide, rfl, rfl⟩⟩⟩⟩⟩⟩⟩⟩
instance Try.eqg101 : EqG Try.prog 101 := ⟨by kernel_rfl⟩
instance Try.part102 : PartT Try.prog 102 (some 8) := part_agg inferInstance rfl
instance Try.bld102 : Bld Try.prog 102 [[.int .i64 0], [.int .i64 0], [.int .u32 0], [.int .u32 0], [.int .i64 0], [.int .i64 0], [.int .i64 0], [.int .i64 0]] := bld_struct Try.underlying102 (z := .agg #[.int .i64 0, .int .i64 0, .int .u32 0, .int .u32 0, .int .i64 0, .int .i64 0, .int .i64 0, .int .i64 0]) (fun _ => by kernel_rfl) rfl (by kernel_rfl) rfl
instance Try.fv102_0 : FieldV Try.prog 102 0 2 0 := fieldV_of Try.underlying102 (by kernel_rfl)
instance Try.fv102_1 : FieldV Try.prog 102 1 2 1 := fieldV_of Try.underlying102 (by kernel_rfl)
instance Try.fv102_2 : FieldV Try.prog 102 2 30 2 := fieldV_of Try.underlying102 (by kernel_rfl)
instance Try.fv102_3 : FieldV Try.prog 102 3 30 3 := fieldV_of Try.underlying102 (by kernel_rfl)
instance Try.fv102_4 : FieldV Try.prog 102 4 3 4 := fieldV_of Try.underlying102 (by kernel_rfl)
instance Try.fv102_5 : FieldV Try.prog 102 5 2 5 := fieldV_of Try.underlying102 (by kernel_rfl)
instance Try.fv102_6 : FieldV Try.prog 102 6 2 6 := fieldV_of Try.underlying102 (by kernel_rfl)
instance Try.fv102_7 : FieldV Try.prog 102 7 2 7 := fieldV_of Try.underlying102 (by kernel_rfl)
instance Try.eqp102 : EqP Try.prog 102 [true, true, true, true, true, true, true, true] 2 := eqp_struct Try.underlying102 inferInstance rfl rfl (by kernel_rfl) ⟨by decide, rfl, [true], [true, true, true, true, true, true, true], 1, inferInstance, by decide, rfl, ⟨by decide, rfl, [true], [true, true, true, true, true, true], 1, inferInstance, by decide, rfl, ⟨by decide, rfl, [true], [true, true, true, true, true], 1, inferInstance, by decide, rfl, ⟨by decide, rfl, [true], [true, true, true, true], 1, inferInstance, by decide, rfl, ⟨by decide, rfl, [true], [true, true, true], 1, inferInstance, by decide, rfl, ⟨by decide, rfl, [true], [true, true], 1, inferInstance, by decide, rfl, ⟨by decide, rfl, [true], [true], 1, inferInstance, by decide, rfl, ⟨by decide, rfl, [true], [], 1, inferInstance, by decide, rfl, rfl⟩⟩⟩⟩⟩⟩⟩⟩
instance Try.eqg102 : EqG Try.prog 102 := ⟨by kernel_rfl⟩
instance Try.part103 : PartT Try.prog 103 (some 11) := part_agg inferInstance rfl
instance Try.bld103 : Bld Try.prog 103 [[.bool false], [.int .i64 0], [.int .u32 0], [.int .i64 0, .int .i64 0, .int .u32 0, .int .u32 0, .int .i64 0, .int .i64 0, .int .i64 0, .int .i64 0]] := bld_struct Try.underlying103 (z := .agg #[.bool false, .int .i64 0, .int .u32 0, .int .i64 0, .int .i64 0, .int .u32 0, .int .u32 0, .int .i64 0, .int .i64 0, .int .i64 0, .int .i64 0]) (fun _ => by kernel_rfl) rfl (by kernel_rfl) rfl
instance Try.fv103_0 : FieldV Try.prog 103 0 4 0 := fieldV_of Try.underlying103 (by kernel_rfl)
instance Try.fv103_1 : FieldV Try.prog 103 1 3 1 := fieldV_of Try.underlying103 (by kernel_rfl)
instance Try.fv103_2 : FieldV Try.prog 103 2 30 2 := fieldV_of Try.underlying103 (by kernel_rfl)
instance Try.fv103_3 : FieldV Try.prog 103 3 102 3 := fieldV_of Try.underlying103 (by kernel_rfl)
instance Try.eqp103 : EqP Try.prog 103 [false, true, true, true, true, true, true, true, true, true, true] 3 := eqp_struct Try.underlying103 inferInstance rfl rfl (by kernel_rfl) ⟨by decide, rfl, [false], [true, true, true, true, true, true, true, true, true, true], 1, inferInstance, by decide, rfl, ⟨by decide, rfl, [true], [true, true, true, true, true, true, true, true, true], 1, inferInstance, by decide, rfl, ⟨by decide, rfl, [true], [true, true, true, true, true, true, true, true], 1, inferInstance, by decide, rfl, ⟨by decide, rfl, [true, true, true, true, true, true, true, true], [], 2, inferInstance, by decide, rfl, rfl⟩⟩⟩⟩
instance Try.eqg103 : EqG Try.prog 103 := ⟨by kernel_rfl⟩
instance Try.part104 : PartT Try.prog 104 (some 11) := part_agg inferInstance rfl
instance Try.bld104 : Bld Try.prog 104 [[.bool false], [.int .i64 0], [.int .u32 0], [.int .i64 0, .int .i64 0, .int .u32 0, .int .u32 0, .int .i64 0, .int .i64 0, .int .i64 0, .int .i64 0]] := bld_struct Try.underlying104 (z := .agg #[.bool false, .int .i64 0, .int .u32 0, .int .i64 0, .int .i64 0, .int .u32 0, .int .u32 0, .int .i64 0, .int .i64 0, .int .i64 0, .int .i64 0]) (fun _ => by kernel_rfl) rfl (by kernel_rfl) rfl
instance Try.fv104_0 : FieldV Try.prog 104 0 4 0 := fieldV_of Try.underlying104 (by kernel_rfl)
instance Try.fv104_1 : FieldV Try.prog 104 1 3 1 := fieldV_of Try.underlying104 (by kernel_rfl)
instance Try.fv104_2 : FieldV Try.prog 104 2 30 2 := fieldV_of Try.underlying104 (by kernel_rfl)
instance Try.fv104_3 : FieldV Try.prog 104 3 102 3 := fieldV_of Try.underlying104 (by kernel_rfl)
instance Try.eqp104 : EqP Try.prog 104 [false, true, true, true, true, true, true, true, true, true, true] 3 := eqp_struct Try.underlying104 inferInstance rfl rfl (by kernel_rfl) ⟨by decide, rfl, [false], [true, true, true, true, true, true, true, true, true, true], 1, inferInstance, by decide, rfl, ⟨by decide, rfl, [true], [true, true, true, true, true, true, true, true, true], 1, inferInstance, by decide, rfl, ⟨by decide, rfl, [true], [true, true, true, true, true, true, true, true], 1, inferInstance, by decide, rfl, ⟨by decide, rfl, [true, true, true, true, true, true, true, true], [], 2, inferInstance, by decide, rfl, rfl⟩⟩⟩⟩
instance Try.eqg104 : EqG Try.prog 104 := ⟨by kernel_rfl⟩
instance Try.part127 : PartT Try.prog 127 none := part_scalar inferInstance
instance Try.part128 : PartT Try.prog 128 (some 4) := part_agg inferInstance rfl
instance Try.bld128 : Bld Try.prog 128 [[.slice none 0 0], [.slice none 0 0], [.slice none 0 0], [.int .u32 0]] := bld_struct Try.underlying128 (z := .agg #[.slice none 0 0, .slice none 0 0, .slice none 0 0, .int .u32 0]) (fun _ => by kernel_rfl) rfl (by kernel_rfl) rfl
instance Try.fv128_0 : FieldV Try.prog 128 0 127 0 := fieldV_of Try.underlying128 (by kernel_rfl)
instance Try.fv128_1 : FieldV Try.prog 128 1 43 1 := fieldV_of Try.underlying128 (by kernel_rfl)
instance Try.fv128_2 : FieldV Try.prog 128 2 43 2 := fieldV_of Try.underlying128 (by kernel_rfl)
instance Try.fv128_3 : FieldV Try.prog 128 3 30 3 := fieldV_of Try.underlying128 (by kernel_rfl)
instance Try.part129 : PartT Try.prog 129 (some 4) := part_agg inferInstance rfl
instance Try.bld129 : Bld Try.prog 129 [[.slice none 0 0], [.slice none 0 0], [.slice none 0 0], [.int .u32 0]] := bld_struct Try.underlying129 (z := .agg #[.slice none 0 0, .slice none 0 0, .slice none 0 0, .int .u32 0]) (fun _ => by kernel_rfl) rfl (by kernel_rfl) rfl
instance Try.fv129_0 : FieldV Try.prog 129 0 127 0 := fieldV_of Try.underlying129 (by kernel_rfl)
instance Try.fv129_1 : FieldV Try.prog 129 1 43 1 := fieldV_of Try.underlying129 (by kernel_rfl)
instance Try.fv129_2 : FieldV Try.prog 129 2 43 2 := fieldV_of Try.underlying129 (by kernel_rfl)
instance Try.fv129_3 : FieldV Try.prog 129 3 30 3 := fieldV_of Try.underlying129 (by kernel_rfl)
instance Try.part132 : PartT Try.prog 132 (some 2) := part_agg inferInstance rfl
instance Try.bld132 : Bld Try.prog 132 [[.int .u32 0], [.int .u32 0]] := bld_array (m := 1) Try.underlying132 (z := .agg #[.int .u32 0, .int .u32 0]) (fun _ => by kernel_rfl) rfl (by kernel_rfl) (by decide) rfl
instance Try.part133 : PartT Try.prog 133 none := part_scalar inferInstance
instance Try.part136 : PartT Try.prog 136 none := part_scalar inferInstance
instance Try.part137 : PartT Try.prog 137 (some 1) := part_agg inferInstance rfl
instance Try.bld137 : Bld Try.prog 137 [[.slice none 0 0]] := bld_struct Try.underlying137 (z := .agg #[.slice none 0 0]) (fun _ => by kernel_rfl) rfl (by kernel_rfl) rfl
instance Try.fv137_0 : FieldV Try.prog 137 0 136 0 := fieldV_of Try.underlying137 (by kernel_rfl)
instance Try.part138 : PartT Try.prog 138 (some 1) := part_agg inferInstance rfl
instance Try.bld138 : Bld Try.prog 138 [[.slice none 0 0]] := bld_struct Try.underlying138 (z := .agg #[.slice none 0 0]) (fun _ => by kernel_rfl) rfl (by kernel_rfl) rfl
instance Try.fv138_0 : FieldV Try.prog 138 0 136 0 := fieldV_of Try.underlying138 (by kernel_rfl)
instance Try.part140 : PartT Try.prog 140 (some 5) := part_agg inferInstance rfl
instance Try.bld140 : Bld Try.prog 140 [[.int .u32 0], [.int .i64 0], [.int .i64 0, .int .i64 0], [.bool false]] := bld_struct Try.underlying140 (z := .agg #[.int .u32 0, .int .i64 0, .int .i64 0, .int .i64 0, .bool false]) (fun _ => by kernel_rfl) rfl (by kernel_rfl) rfl
instance Try.fv140_0 : FieldV Try.prog 140 0 30 0 := fieldV_of Try.underlying140 (by kernel_rfl)
instance Try.fv140_1 : FieldV Try.prog 140 1 3 1 := fieldV_of Try.underlying140 (by kernel_rfl)
instance Try.fv140_2 : FieldV Try.prog 140 2 72 2 := fieldV_of Try.underlying140 (by kernel_rfl)
instance Try.fv140_3 : FieldV Try.prog 140 3 4 4 := fieldV_of Try.underlying140 (by kernel_rfl)
instance Try.eqp140 : EqP Try.prog 140 [true, true, true, true, false] 3 := eqp_struct Try.underlying140 inferInstance rfl rfl (by kernel_rfl) ⟨by decide, rfl, [true], [true, true, true, false], 1, inferInstance, by decide, rfl, ⟨by decide, rfl, [true], [true, true, false], 1, inferInstance, by decide, rfl, ⟨by decide, rfl, [true, true], [false], 2, inferInstance, by decide, rfl, ⟨by decide, rfl, [false], [], 1, inferInstance, by decide, rfl, rfl⟩⟩⟩⟩
instance Try.eqg140 : EqG Try.prog 140 := ⟨by kernel_rfl⟩
instance Try.part141 : PartT Try.prog 141 (some 5) := part_agg inferInstance rfl
instance Try.bld141 : Bld Try.prog 141 [[.int .u32 0], [.int .i64 0], [.int .i64 0, .int .i64 0], [.bool false]] := bld_struct Try.underlying141 (z := .agg #[.int .u32 0, .int .i64 0, .int .i64 0, .int .i64 0, .bool false]) (fun _ => by kernel_rfl) rfl (by kernel_rfl) rfl
instance Try.fv141_0 : FieldV Try.prog 141 0 30 0 := fieldV_of Try.underlying141 (by kernel_rfl)
instance Try.fv141_1 : FieldV Try.prog 141 1 3 1 := fieldV_of Try.underlying141 (by kernel_rfl)
instance Try.fv141_2 : FieldV Try.prog 141 2 72 2 := fieldV_of Try.underlying141 (by kernel_rfl)
instance Try.fv141_3 : FieldV Try.prog 141 3 4 4 := fieldV_of Try.underlying141 (by kernel_rfl)
instance Try.eqp141 : EqP Try.prog 141 [true, true, true, true, false] 3 := eqp_struct Try.underlying141 inferInstance rfl rfl (by kernel_rfl) ⟨by decide, rfl, [true], [true, true, true, false], 1, inferInstance, by decide, rfl, ⟨by decide, rfl, [true], [true, true, false], 1, inferInstance, by decide, rfl, ⟨by decide, rfl, [true, true], [false], 2, inferInstance, by decide, rfl, ⟨by decide, rfl, [false], [], 1, inferInstance, by decide, rfl, rfl⟩⟩⟩⟩
instance Try.eqg141 : EqG Try.prog 141 := ⟨by kernel_rfl⟩
instance Try.part145 : PartT Try.prog 145 none := part_scalar inferInstance
instance Try.eqp145 : EqP Try.prog 145 [true] 1 := eqp_int Try.underlying145 inferInstance
instance Try.part149 : PartT Try.prog 149 none := part_scalar inferInstance
instance Try.part150 : PartT Try.prog 150 (some 3) := part_agg inferInstance rfl
instance Try.bld150 : Bld Try.prog 150 [[.pointer none], [.slice none 0 0], [.int .i64 0]] := bld_struct Try.underlying150 (z := .agg #[.pointer none, .slice none 0 0, .int .i64 0]) (fun _ => by kernel_rfl) rfl (by kernel_rfl) rfl
instance Try.fv150_0 : FieldV Try.prog 150 0 25 0 := fieldV_of Try.underlying150 (by kernel_rfl)
instance Try.fv150_1 : FieldV Try.prog 150 1 22 1 := fieldV_of Try.underlying150 (by kernel_rfl)
instance Try.fv150_2 : FieldV Try.prog 150 2 3 2 := fieldV_of Try.underlying150 (by kernel_rfl)
instance Try.part151 : PartT Try.prog 151 (some 3) := part_agg inferInstance rfl
instance Try.bld151 : Bld Try.prog 151 [[.pointer none], [.slice none 0 0], [.int .i64 0]] := bld_struct Try.underlying151 (z := .agg #[.pointer none, .slice none 0 0, .int .i64 0]) (fun _ => by kernel_rfl) rfl (by kernel_rfl) rfl
instance Try.fv151_0 : FieldV Try.prog 151 0 25 0 := fieldV_of Try.underlying151 (by kernel_rfl)
instance Try.fv151_1 : FieldV Try.prog 151 1 22 1 := fieldV_of Try.underlying151 (by kernel_rfl)
instance Try.fv151_2 : FieldV Try.prog 151 2 3 2 := fieldV_of Try.underlying151 (by kernel_rfl)
instance Try.part153 : PartT Try.prog 153 none := part_scalar inferInstance
instance Try.part170 : PartT Try.prog 170 none := part_scalar inferInstance
instance Try.part173 : PartT Try.prog 173 (some 11) := part_agg inferInstance rfl
instance Try.bld173 : Bld Try.prog 173 [[.int .u64 0], [.int .u64 0], [.int .u32 0], [.int .u8 0], [.int .u8 0], [.int .u8 0], [.int .u8 0], [.nilFunc], [.pointer none], [.int .i32 0], [.int .i32 0]] := bld_struct Try.underlying173 (z := .agg #[.int .u64 0, .int .u64 0, .int .u32 0, .int .u8 0, .int .u8 0, .int .u8 0, .int .u8 0, .nilFunc, .pointer none, .int .i32 0, .int .i32 0]) (fun _ => by kernel_rfl) rfl (by kernel_rfl) rfl
instance Try.fv173_0 : FieldV Try.prog 173 0 12 0 := fieldV_of Try.underlying173 (by kernel_rfl)
instance Try.fv173_1 : FieldV Try.prog 173 1 12 1 := fieldV_of Try.underlying173 (by kernel_rfl)
instance Try.fv173_2 : FieldV Try.prog 173 2 30 2 := fieldV_of Try.underlying173 (by kernel_rfl)
instance Try.fv173_3 : FieldV Try.prog 173 3 167 3 := fieldV_of Try.underlying173 (by kernel_rfl)
instance Try.fv173_4 : FieldV Try.prog 173 4 5 4 := fieldV_of Try.underlying173 (by kernel_rfl)
instance Try.fv173_5 : FieldV Try.prog 173 5 5 5 := fieldV_of Try.underlying173 (by kernel_rfl)
instance Try.fv173_6 : FieldV Try.prog 173 6 168 6 := fieldV_of Try.underlying173 (by kernel_rfl)
instance Try.fv173_7 : FieldV Try.prog 173 7 169 7 := fieldV_of Try.underlying173 (by kernel_rfl)
instance Try.fv173_8 : FieldV Try.prog 173 8 170 8 := fieldV_of Try.underlying173 (by kernel_rfl)
instance Try.fv173_9 : FieldV Try.prog 173 9 171 9 := fieldV_of Try.underlying173 (by kernel_rfl)
instance Try.fv173_10 : FieldV Try.prog 173 10 172 10 := fieldV_of Try.underlying173 (by kernel_rfl)
instance Try.ent3 : Enters Try.prog 3 := enters_of Try.func3 rfl (by kernel_rfl)
instance Try.ent4 : Enters Try.prog 4 := enters_of Try.func4 rfl (by kernel_rfl)
instance Try.ent5 : Enters Try.prog 5 := enters_of Try.func5 rfl (by kernel_rfl)
instance Try.ent6 : Enters Try.prog 6 := enters_of Try.func6 rfl (by kernel_rfl)
instance Try.ent7 : Enters Try.prog 7 := enters_of Try.func7 rfl (by kernel_rfl)
instance Try.ent8 : Enters Try.prog 8 := enters_of Try.func8 rfl (by kernel_rfl)
instance Try.ent9 : Enters Try.prog 9 := enters_of Try.func9 rfl (by kernel_rfl)
instance Try.ent10 : Enters Try.prog 10 := enters_of Try.func10 rfl (by kernel_rfl)
instance Try.ent11 : Enters Try.prog 11 := enters_of Try.func11 rfl (by kernel_rfl)
instance Try.ent12 : Enters Try.prog 12 := enters_of Try.func12 rfl (by kernel_rfl)
instance Try.ent13 : Enters Try.prog 13 := enters_of Try.func13 rfl (by kernel_rfl)
instance Try.ent14 : Enters Try.prog 14 := enters_of Try.func14 rfl (by kernel_rfl)
instance Try.ent15 : Enters Try.prog 15 := enters_of Try.func15 rfl (by kernel_rfl)
instance Try.ent16 : Enters Try.prog 16 := enters_of Try.func16 rfl (by kernel_rfl)
instance Try.ent17 : Enters Try.prog 17 := enters_of Try.func17 rfl (by kernel_rfl)
instance Try.ent18 : Enters Try.prog 18 := enters_of Try.func18 rfl (by kernel_rfl)
instance Try.ent19 : Enters Try.prog 19 := enters_of Try.func19 rfl (by kernel_rfl)
instance Try.ent20 : Enters Try.prog 20 := enters_of Try.func20 rfl (by kernel_rfl)
instance Try.ent21 : Enters Try.prog 21 := enters_of Try.func21 rfl (by kernel_rfl)
instance Try.ent22 : Enters Try.prog 22 := enters_of Try.func22 rfl (by kernel_rfl)
instance Try.ent23 : Enters Try.prog 23 := enters_of Try.func23 rfl (by kernel_rfl)
instance Try.ent24 : Enters Try.prog 24 := enters_of Try.func24 rfl (by kernel_rfl)
instance Try.ent25 : Enters Try.prog 25 := enters_of Try.func25 rfl (by kernel_rfl)
instance Try.ent26 : Enters Try.prog 26 := enters_of Try.func26 rfl (by kernel_rfl)
instance Try.ent27 : Enters Try.prog 27 := enters_of Try.func27 rfl (by kernel_rfl)
instance Try.ent28 : Enters Try.prog 28 := enters_of Try.func28 rfl (by kernel_rfl)
instance Try.ent29 : Enters Try.prog 29 := enters_of Try.func29 rfl (by kernel_rfl)
instance Try.ent30 : Enters Try.prog 30 := enters_of Try.func30 rfl (by kernel_rfl)
instance Try.ent31 : Enters Try.prog 31 := enters_of Try.func31 rfl (by kernel_rfl)
instance Try.ent32 : Enters Try.prog 32 := enters_of Try.func32 rfl (by kernel_rfl)
instance Try.ent33 : Enters Try.prog 33 := enters_of Try.func33 rfl (by kernel_rfl)
instance Try.ent34 : Enters Try.prog 34 := enters_of Try.func34 rfl (by kernel_rfl)
instance Try.ent35 : Enters Try.prog 35 := enters_of Try.func35 rfl (by kernel_rfl)
instance Try.ent36 : Enters Try.prog 36 := enters_of Try.func36 rfl (by kernel_rfl)
instance Try.ent37 : Enters Try.prog 37 := enters_of Try.func37 rfl (by kernel_rfl)
instance Try.ent38 : Enters Try.prog 38 := enters_of Try.func38 rfl (by kernel_rfl)
instance Try.ent39 : Enters Try.prog 39 := enters_of Try.func39 rfl (by kernel_rfl)
instance Try.ent40 : Enters Try.prog 40 := enters_of Try.func40 rfl (by kernel_rfl)
instance Try.ent41 : Enters Try.prog 41 := enters_of Try.func41 rfl (by kernel_rfl)
instance Try.ent42 : Enters Try.prog 42 := enters_of Try.func42 rfl (by kernel_rfl)
instance Try.ent43 : Enters Try.prog 43 := enters_of Try.func43 rfl (by kernel_rfl)
instance Try.ent44 : Enters Try.prog 44 := enters_of Try.func44 rfl (by kernel_rfl)
instance Try.ent45 : Enters Try.prog 45 := enters_of Try.func45 rfl (by kernel_rfl)
instance Try.ent46 : Enters Try.prog 46 := enters_of Try.func46 rfl (by kernel_rfl)
instance Try.ent47 : Enters Try.prog 47 := enters_of Try.func47 rfl (by kernel_rfl)
instance Try.ent48 : Enters Try.prog 48 := enters_of Try.func48 rfl (by kernel_rfl)
instance Try.ent49 : Enters Try.prog 49 := enters_of Try.func49 rfl (by kernel_rfl)
instance Try.ent50 : Enters Try.prog 50 := enters_of Try.func50 rfl (by kernel_rfl)
instance Try.ent51 : Enters Try.prog 51 := enters_of Try.func51 rfl (by kernel_rfl)
instance Try.ent52 : Enters Try.prog 52 := enters_of Try.func52 rfl (by kernel_rfl)
instance Try.ent53 : Enters Try.prog 53 := enters_of Try.func53 rfl (by kernel_rfl)
instance Try.ent54 : Enters Try.prog 54 := enters_of Try.func54 rfl (by kernel_rfl)
instance Try.ent55 : Enters Try.prog 55 := enters_of Try.func55 rfl (by kernel_rfl)
instance Try.ent56 : Enters Try.prog 56 := enters_of Try.func56 rfl (by kernel_rfl)
instance Try.ent57 : Enters Try.prog 57 := enters_of Try.func57 rfl (by kernel_rfl)
instance Try.ent58 : Enters Try.prog 58 := enters_of Try.func58 rfl (by kernel_rfl)
instance Try.ent59 : Enters Try.prog 59 := enters_of Try.func59 rfl (by kernel_rfl)
instance Try.ent60 : Enters Try.prog 60 := enters_of Try.func60 rfl (by kernel_rfl)
instance Try.ent61 : Enters Try.prog 61 := enters_of Try.func61 rfl (by kernel_rfl)
instance Try.ent62 : Enters Try.prog 62 := enters_of Try.func62 rfl (by kernel_rfl)
instance Try.ent63 : Enters Try.prog 63 := enters_of Try.func63 rfl (by kernel_rfl)
instance Try.ent64 : Enters Try.prog 64 := enters_of Try.func64 rfl (by kernel_rfl)
instance Try.ent65 : Enters Try.prog 65 := enters_of Try.func65 rfl (by kernel_rfl)
instance Try.ent66 : Enters Try.prog 66 := enters_of Try.func66 rfl (by kernel_rfl)
instance Try.ent67 : Enters Try.prog 67 := enters_of Try.func67 rfl (by kernel_rfl)
instance Try.ent68 : Enters Try.prog 68 := enters_of Try.func68 rfl (by kernel_rfl)
instance Try.ent69 : Enters Try.prog 69 := enters_of Try.func69 rfl (by kernel_rfl)
instance Try.ent70 : Enters Try.prog 70 := enters_of Try.func70 rfl (by kernel_rfl)
instance Try.ent71 : Enters Try.prog 71 := enters_of Try.func71 rfl (by kernel_rfl)
instance Try.ent72 : Enters Try.prog 72 := enters_of Try.func72 rfl (by kernel_rfl)
instance Try.ent73 : Enters Try.prog 73 := enters_of Try.func73 rfl (by kernel_rfl)
instance Try.ent74 : Enters Try.prog 74 := enters_of Try.func74 rfl (by kernel_rfl)
instance Try.ent75 : Enters Try.prog 75 := enters_of Try.func75 rfl (by kernel_rfl)
instance Try.ent76 : Enters Try.prog 76 := enters_of Try.func76 rfl (by kernel_rfl)
instance Try.ent77 : Enters Try.prog 77 := enters_of Try.func77 rfl (by kernel_rfl)
instance Try.ent78 : Enters Try.prog 78 := enters_of Try.func78 rfl (by kernel_rfl)
instance Try.ent79 : Enters Try.prog 79 := enters_of Try.func79 rfl (by kernel_rfl)
instance Try.ent80 : Enters Try.prog 80 := enters_of Try.func80 rfl (by kernel_rfl)
instance Try.ent81 : Enters Try.prog 81 := enters_of Try.func81 rfl (by kernel_rfl)
instance Try.ent82 : Enters Try.prog 82 := enters_of Try.func82 rfl (by kernel_rfl)
instance Try.ent83 : Enters Try.prog 83 := enters_of Try.func83 rfl (by kernel_rfl)
instance Try.ent84 : Enters Try.prog 84 := enters_of Try.func84 rfl (by kernel_rfl)
instance Try.ent85 : Enters Try.prog 85 := enters_of Try.func85 rfl (by kernel_rfl)
instance Try.ent86 : Enters Try.prog 86 := enters_of Try.func86 rfl (by kernel_rfl)
instance Try.ent87 : Enters Try.prog 87 := enters_of Try.func87 rfl (by kernel_rfl)
instance Try.ent88 : Enters Try.prog 88 := enters_of Try.func88 rfl (by kernel_rfl)
instance Try.ent89 : Enters Try.prog 89 := enters_of Try.func89 rfl (by kernel_rfl)
instance Try.ent90 : Enters Try.prog 90 := enters_of Try.func90 rfl (by kernel_rfl)
instance Try.ent91 : Enters Try.prog 91 := enters_of Try.func91 rfl (by kernel_rfl)
instance Try.ent92 : Enters Try.prog 92 := enters_of Try.func92 rfl (by kernel_rfl)
instance Try.ent93 : Enters Try.prog 93 := enters_of Try.func93 rfl (by kernel_rfl)
instance Try.ent94 : Enters Try.prog 94 := enters_of Try.func94 rfl (by kernel_rfl)
instance Try.ent95 : Enters Try.prog 95 := enters_of Try.func95 rfl (by kernel_rfl)
instance Try.ent96 : Enters Try.prog 96 := enters_of Try.func96 rfl (by kernel_rfl)
instance Try.ent97 : Enters Try.prog 97 := enters_of Try.func97 rfl (by kernel_rfl)
instance Try.ent98 : Enters Try.prog 98 := enters_of Try.func98 rfl (by kernel_rfl)
instance Try.ent99 : Enters Try.prog 99 := enters_of Try.func99 rfl (by kernel_rfl)
instance Try.ent100 : Enters Try.prog 100 := enters_of Try.func100 rfl (by kernel_rfl)
instance Try.ent101 : Enters Try.prog 101 := enters_of Try.func101 rfl (by kernel_rfl)
instance Try.ent102 : Enters Try.prog 102 := enters_of Try.func102 rfl (by kernel_rfl)
instance Try.ent103 : Enters Try.prog 103 := enters_of Try.func103 rfl (by kernel_rfl)
instance Try.ent104 : Enters Try.prog 104 := enters_of Try.func104 rfl (by kernel_rfl)
instance Try.ent105 : Enters Try.prog 105 := enters_of Try.func105 rfl (by kernel_rfl)
instance Try.ent106 : Enters Try.prog 106 := enters_of Try.func106 rfl (by kernel_rfl)
instance Try.ent107 : Enters Try.prog 107 := enters_of Try.func107 rfl (by kernel_rfl)
instance Try.ent108 : Enters Try.prog 108 := enters_of Try.func108 rfl (by kernel_rfl)
instance Try.ent109 : Enters Try.prog 109 := enters_of Try.func109 rfl (by kernel_rfl)
instance Try.ent110 : Enters Try.prog 110 := enters_of Try.func110 rfl (by kernel_rfl)
end Go.Proofs
