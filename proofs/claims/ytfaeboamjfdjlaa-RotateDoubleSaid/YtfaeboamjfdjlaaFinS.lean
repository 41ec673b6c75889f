/-
  Opening arguments that are slices of steps: a record whose first field is a record.
-/
import Derived.Test.YtfaeboamjfdjlaaFinE
import Derived.Test.YtfaeboamjfdjlaaBu
set_option linter.unusedVariables false
namespace Go.Proofs.Ytfaeboamjfdjlaa
open Go.Vc Go.ChangeShapes Go.WideShapes Go.ChangeAt Go.RowKit

theorem elT_pre {α β : Type} {P : Program} {e : TypeId} {fs : Array Field} {f0 : Field} {rest : List Field} {n0 : Nat} {ks : List IntKind} {enc0 : β → List Value} {ok0 : β → Prop} {encv : α → List Value} {ok : α → Prop} (he : P.underlying e = some (.struct fs)) (hfs : fs.toList = f0 :: rest) (h0 : f0.offset = 0) (hc0 : P.cellsOf f0.type = n0) (el0 : ElT P f0.type enc0 ok0) (hB : flatB P rest n0 ks = true) (hc : P.cellsOf e = n0 + ks.length)
    (ha : ∀ b zs, ok0 b → intsOk ks zs → ∃ a, enc0 b ++ intsC ks zs = encv a ∧ ok a) : ElT P e encv ok := by
  intro H enc W n cs x h
  obtain ⟨xs, k, hk, hxy, hl, hxl, hf⟩ := DataW.trod_struct he h
  have get : ∀ (i : Nat) (f : Field), fs.toList[i]? = some f → ∃ y, DataW.trod enc P W 0 (fun _ => true) true k f.type ((cs.drop f.offset).take (P.cellsOf f.type)) = some y := by
    intro i f hif
    have hif' : fs[i]? = some f := by simpa using hif
    have hi : i < xs.length := by rw [hxl]; exact (Array.getElem?_eq_some_iff.1 hif').1
    exact ⟨xs[i], by rw [hf i f hif', List.getElem?_eq_getElem hi]⟩
  obtain ⟨y, hy⟩ := get 0 f0 (by rw [hfs]; rfl)
  rw [h0, hc0, List.drop_zero] at hy
  obtain ⟨b, e1, e2⟩ := el0 _ _ _ _ _ _ hy
  obtain ⟨zs, hz, hd⟩ := flat_open (xs := xs) (enc := enc) (W := W) (cs := cs) (n := k) rest n0 ks hB (by omega) (fun i f hif => get (i + 1) f (by rw [hfs]; exact hif))
  obtain ⟨a, e3, e4⟩ := ha b zs e2 hz
  refine ⟨a, ?_, e4⟩
  rw [← e3, ← e1, ← hd, List.take_of_length_le (l := cs.drop n0) (by rw [List.length_drop]; omega), List.take_append_drop]

theorem el_Step : ElT Try.prog 90 stC InSt :=
  elT_pre (n0 := 2) (ks := [.i64, .i64]) Try.underlying90 rfl rfl (by kernel_rfl) el_Entry (by kernel_rfl) (by kernel_rfl) fun b zs hb hz => by
    match zs, hz with
    | [c, d], h => exact ⟨(b.1, b.2, c, d), rfl, int_wf64 h.1, int_wf64 h.2.1⟩

theorem int_wfu8' {a : Int} (h : (Lit.int .u8 a).wf = true) : 0 ≤ a ∧ a ≤ 255 := by
  simpa [Lit.wf, IntKind.min, IntKind.max, IntKind.signed, IntKind.bits] using h

end Go.Proofs.Ytfaeboamjfdjlaa
