/-
  The laws 'splits' and 'torn tail'.
-/
import Derived.Test.YtfgkleggbcpinaaF18
set_option linter.unusedVariables false
namespace Go.Vc
section
variable {P : Program} {n : Nat} {Q : Exit → Act → World → Prop} {k : List It} {st : St} {w : World}
variable {all : Array Oper} {rest : List Oper} {d : Nat} {t to e : TypeId} {p : String} {af : Array Edge} {x y : Operand} {bytes : Nat} {D : Cls}

/-- 'append(x, c)', behind the literal of one element of one cell. -/
theorem go_push [he : Elem P t e 1 bytes] {w0 w1 : World} {v u : Value} {q nb : Nat} {xs : List Value} (hd : Nat.blt d n = true) (hx : evS st x = some v) (hy : evS st y = some (.slice (some ⟨nb, 0, none⟩) 1 1)) (hw : w = w1.alloc (.cells #[u] e)) (hnb : w1.heap.size = nb) (h0 : Ext w0 w1)
    (hown : Own w1 w0.heap.size e 1 v q xs) (hone : u.oneCell' = true) (hq : q + 1 ≤ maxLen) (hb : (q + 1) * bytes ≤ 140737488355328)
    (h : ∀ v' w', Own w' w0.heap.size e 1 v' (q + 1) (xs ++ [u]) → Ext w0 w' → (w1.alloc (.cells #[u] e)).grownBy w' v.ownBlock → Go P n Q (.ops all rest :: k) ((d, v') :: st) w') :
    Go P n Q (.ops all (⟨some d, .call { callee := .builtin .append, args := #[x, y], argTypes := #[t, t] }, to, p, af, none⟩ :: rest) :: k) st w := by
  subst hw; subst hnb
  have hx1 : Ext w1 (w1.alloc (.cells #[u] e)) := (Fr.refl _ _).alloc _
  have ho := hown.ext hx1
  refine go_append (t := t) (e := e) (m := 1) (bytes := bytes) (r := 1) (news := [u]) (by decide) hd hx hy ho ?_ rfl (by intro x hx; simp at hx; subst hx; exact hone) hq hb (h0.trans hx1).size ?_
  · intro j q hj
    refine ⟨_, _, rfl, ?_⟩
    have := (At.new w1 [u] e).cell (i := j) (v := q) hj
    simpa using this
  intro v' w' ho' hg _
  exact h v' w' ho' (ext_grown (h0.trans hx1) (Nat.le_refl _) ho hg) hg
end
end Go.Vc
namespace Go.Proofs.Ytfgkleggbcpinaa
open Go.Vc

/-- A slice of slices of bytes that is read. -/
def BL (w : World) (v : Value) (ls : List (List (BitVec 8))) : Prop :=
  ∃ sa cap vs, v = .slice sa ls.length cap ∧ ls.length ≤ cap ∧ RdC w sa vs ∧ vs.length = ls.length ∧ ∀ (i : Nat) (u : Value) (l : List (BitVec 8)), vs[i]? = some u → ls[i]? = some l → By w u l

theorem Ls.bl {w : World} {lo : Nat} {v : Value} {ls : List (List (BitVec 8))} (h : Ls w lo v ls) : BL w v ls := by
  obtain ⟨vs, ho, hi⟩ := h
  obtain ⟨sa, cap, rfl, hc, hr⟩ := ho.slice
  exact ⟨sa, cap, vs, rfl, hc, hr, by have := ho.1; omega, fun i u l hu hl => (hi i u l hu hl).by⟩

theorem BL.cells {w : World} {sa : Option Addr} {vs : List Value} {ls : List (List (BitVec 8))} (hr : RdC w sa vs) (hl : vs.length = ls.length) (hb : ∀ (i : Nat) (u : Value) (l : List (BitVec 8)), vs[i]? = some u → ls[i]? = some l → By w u l) {i : Nat} (hi : i < ls.length) :
    ∃ b o su cu, sa = some ⟨b, o, none⟩ ∧ w.cell? ⟨b, o + i, none⟩ = some (.slice su ls[i].length cu) ∧ By w (.slice su ls[i].length cu) ls[i] ∧ ls[i].length ≤ cu ∧ RdC w su (ls[i].map u8) := by
  have h1 : vs[i]? = some (vs[i]'(by omega)) := List.getElem?_eq_getElem _
  obtain ⟨b, o, e, hc⟩ := hr i _ h1
  have hb' := hb i _ ls[i] h1 (List.getElem?_eq_getElem hi)
  obtain ⟨su, cu, eu, hcu, hru⟩ := hb'
  rw [eu] at hc
  exact ⟨b, o, su, cu, e, hc, ⟨su, cu, rfl, hcu, hru⟩, hcu, hru⟩

theorem frames_len : ∀ (ms : List (List (BitVec 8))), (∀ m ∈ ms, m.length ≤ 100) → (frames ms).length ≤ 114 * ms.length
  | [], _ => by simp [frames]
  | m :: ms, h => by
    have h1 := frames_len ms (fun x hx => h x (by simp [hx]))
    have h2 := h m (by simp)
    have h3 := frame_len m
    simp only [frames, List.flatMap_cons, List.length_append, List.length_cons] at h1 ⊢
    omega

theorem frames_snoc (ms : List (List (BitVec 8))) (m : List (BitVec 8)) : frames (ms ++ [m]) = frames ms ++ frame m := by simp [frames]
theorem frames_take {ms : List (List (BitVec 8))} {i : Nat} (hi : i < ms.length) : frames (ms.take (i+1)) = frames (ms.take i) ++ frame ms[i] := by
  rw [List.take_succ_eq_append_getElem hi, frames_snoc]

theorem nextP_end (l : List (BitVec 8)) : (nextP l (l.length : Int)).2.2 = 12 := by
  have : uvRes l (l.length : Int) = (0, 0, 12) := by
    unfold uvRes
    rw [if_neg (by simp), Int.toNat_natCast, List.drop_eq_nil_of_le (Nat.le_refl _)]
    rfl
  unfold nextP
  rw [this]; simp

/-- What is left of frames that are cut at 'k', behind the 'j' whole ones. -/
theorem cut_split {ms : List (List (BitVec 8))} {j k : Nat} (hm : ∀ m ∈ ms, m.length ≤ 100) (hj : j ≤ ms.length) (h1 : (frames (ms.take j)).length ≤ k) (h2 : j < ms.length → k < (frames (ms.take (j+1))).length) (hk : k ≤ (frames ms).length) :
    ∃ tl, (frames ms).take k = [] ++ (frames (ms.take j) ++ tl) ∧ (nextP ([] ++ (frames (ms.take j) ++ tl)) (([] ++ frames (ms.take j)).length : Nat)).2.2 = 12 := by
  by_cases hlt : j < ms.length
  · have h3 := h2 hlt
    rw [frames_take hlt, List.length_append] at h3
    refine ⟨(frame ms[j]).take (k - (frames (ms.take j)).length), ?_, ?_⟩
    · have e : frames ms = frames (ms.take j) ++ (frame ms[j] ++ frames (ms.drop (j+1))) := by
        have h0 : frames ms = frames (ms.take j ++ ms[j] :: ms.drop (j+1)) := by rw [← List.drop_eq_getElem_cons hlt, List.take_append_drop]
        rw [h0]; simp only [frames, List.flatMap_append, List.flatMap_cons]
      rw [List.nil_append, e, List.take_append, List.take_of_length_le h1, List.take_append_of_le_length (by omega)]
    · rw [List.nil_append, List.nil_append]
      exact nextP_torn _ _ _ (by have := hm ms[j] (List.getElem_mem hlt); omega) (by omega)
  · obtain rfl : j = ms.length := by omega
    rw [List.take_length] at h1 ⊢
    refine ⟨[], ?_, ?_⟩
    · rw [List.take_of_length_le h1]; simp
    · simp only [List.nil_append, List.append_nil]
      exact nextP_end _

theorem split_cut {ms : List (List (BitVec 8))} {j k f : Nat} (hm : ∀ m ∈ ms, m.length ≤ 100) (hj : j ≤ ms.length) (h1 : (frames (ms.take j)).length ≤ k) (h2 : j < ms.length → k < (frames (ms.take (j+1))).length) (hk : k ≤ (frames ms).length) (hf : j < f) :
    splitF f ((frames ms).take k) 0 = (ms.take j, (frames (ms.take j)).length) ∧ (nextP ((frames ms).take k) ((frames (ms.take j)).length : Nat)).2.2 = 12 := by
  obtain ⟨tl, e, h3⟩ := cut_split hm hj h1 h2 hk
  rw [e]
  refine ⟨?_, by simpa using h3⟩
  have := splitF_frames (ms.take j) f [] tl (fun m h => by have := hm m (List.mem_of_mem_take h); omega) (by rw [List.length_take]; omega) (by rw [h3]; decide)
  simpa using this

theorem le_frames (ms : List (List (BitVec 8))) : 4 * ms.length ≤ (frames ms).length := by
  induction ms with
  | nil => simp [frames]
  | cons m ms ih =>
    have := frame_len m
    simp only [frames, List.flatMap_cons, List.length_append, List.length_cons] at ih ⊢
    omega

set_option maxHeartbeats 2000000 in
theorem c_LawSplits (v : Value) (ms : List (List (BitVec 8))) (w : World) (hl : ms.length ≤ 9223372036854775807) (hb0 : ∀ m ∈ ms, m.length ≤ 9223372036854775807) (hv : BL w v ms) :
    Calls Try.prog 10 [v].toArray w (Ret fun r w' => r = .bool true ∧ Ext w w') := by
  obtain ⟨sa, cap, vs, rfl, hcap, hr, hvl, hbs⟩ := hv
  refine calls_go Try.func10 rfl Try.ntmps10 (Nat.le_of_ble_eq_true rfl) ?_
  by_cases h12 : 12 < ms.length
  · repeat (first | refine sp ?_ | (refine is_load ?_; refine ld ?_) | (refine is_store ?_; refine sr ?_) | (refine is_alloc ?_; refine al ?_) | (refine is_box ?_; refine bx ?_))
    refine go_call rfl rfl (c_awake w) ?_
    rintro r w1 ⟨rfl, hx⟩
    repeat (first | refine sp ?_ | (refine is_load ?_; refine ld ?_) | (refine is_store ?_; refine sr ?_) | (refine is_alloc ?_; refine al ?_) | (refine is_box ?_; refine bx ?_))
    exact go_ret1 rfl rfl ⟨_, rfl, rfl, hx⟩
  repeat (first | refine sp ?_ | (refine is_load ?_; refine ld ?_) | (refine is_store ?_; refine sr ?_) | (refine is_alloc ?_; refine al ?_) | (refine is_box ?_; refine bx ?_))
  refine go_loop (G := Nat × Value × Nat) [5, 3, 4] (fun g => [.int .i64 (g.1 : Int), g.2.1, .int .i64 (g.2.2 : Int)]) [(0, .slice sa ms.length cap)]
    (fun g w' => g.1 ≤ ms.length ∧ (∀ m ∈ ms.take g.1, m.length ≤ 100) ∧ By w' g.2.1 (frames (ms.take g.1)) ∧ g.2.2 = (frames (ms.take (g.1 - 1))).length ∧ Ext w w') (fun g => ms.length - g.1)
    (0, .slice none 0 0, 0) rfl ⟨rfl, trivial⟩ ⟨by simp, by simp, By.nil _, by simp [frames], Fr.refl _ _⟩ ?_
  rintro ⟨i, vb, la⟩ w1 ⟨hi, hm, hvb, hla, hx⟩
  simp only at hi hm hvb hla
  have hfl := frames_len _ hm
  rw [List.length_take, Nat.min_eq_left hi] at hfl
  obtain ⟨sb, cb, rfl, hcb, hrb⟩ := id hvb
  by_cases hlt : i < ms.length
  · obtain ⟨b, o, su, cu, rfl, hcell, hbu, hcu, hru⟩ := BL.cells hr hvl hbs hlt
    have hcell1 := hx.cell hcell (fun h => h)
    by_cases h100 : 100 < ms[i].length
    · have hub := hb0 _ (List.getElem_mem hlt)
      repeat (first | refine sp ?_ | (refine is_load ?_; refine ld ?_) | (refine is_store ?_; refine sr ?_) | (refine is_alloc ?_; refine al ?_) | (refine is_box ?_; refine bx ?_))
      refine go_call rfl rfl (c_awake w1) ?_
      rintro r w2 ⟨rfl, hx2⟩
      repeat (first | refine sp ?_ | (refine is_load ?_; refine ld ?_) | (refine is_store ?_; refine sr ?_) | (refine is_alloc ?_; refine al ?_) | (refine is_box ?_; refine bx ?_))
      exact go_ret1 rfl rfl ⟨_, rfl, rfl, hx.trans hx2⟩
    · repeat (first | refine sp ?_ | (refine is_load ?_; refine ld ?_) | (refine is_store ?_; refine sr ?_) | (refine is_alloc ?_; refine al ?_) | (refine is_box ?_; refine bx ?_))
      refine go_call rfl rfl (c_Append _ _ _ ms[i] w1 (by omega) (by omega) hvb (hbu.ext hx)) ?_
      rintro r w2 ⟨x, rfl, hox, hx2⟩
      repeat (first | refine sp ?_ | (refine is_load ?_; refine ld ?_) | (refine is_store ?_; refine sr ?_) | (refine is_alloc ?_; refine al ?_) | (refine is_box ?_; refine bx ?_))
      refine go_stop (G := Nat × Value × Nat) (i+1, x, (frames (ms.take i)).length) rfl ⟨rfl, trivial⟩ ⟨hlt, ?_, ?_, rfl, hx.trans hx2⟩ (by show ms.length - (i+1) < ms.length - i; omega)
      · intro m hmm
        dsimp only at hmm
        rw [List.take_succ_eq_append_getElem hlt, List.mem_append] at hmm
        rcases hmm with h | h
        · exact hm m h
        · simp at h; subst h; omega
      · dsimp only
        rw [frames_take hlt]
        exact hox.by
  obtain rfl : i = ms.length := by omega
  rw [List.take_length] at hm hvb hfl hrb hcb ⊢
  obtain ⟨e1, e2⟩ := split_cut (j := ms.length) (k := (frames ms).length) (f := (frames ms).length + 1) hm (Nat.le_refl _) (by simp) (by omega) (by omega) (by have := le_frames ms; omega)
  rw [List.take_length, List.take_length] at e1
  repeat (first | refine sp ?_ | (refine is_load ?_; refine ld ?_) | (refine is_store ?_; refine sr ?_) | (refine is_alloc ?_; refine al ?_) | (refine is_box ?_; refine bx ?_))
  refine go_call rfl rfl (c_Split _ (frames ms) w1 (by omega) hvb) ?_
  rw [e1]
  rintro r w2 ⟨x, rfl, hls, hx2⟩
  simp only at hls ⊢
  have hx2' := hx.trans hx2
  have hbl := hls.bl
  obtain ⟨sc, cc, us, rfl, hcc, hrc, hul, hbu⟩ := hls.bl
  repeat (first | refine sp ?_ | (refine is_load ?_; refine ld ?_) | (refine is_store ?_; refine sr ?_) | (refine is_alloc ?_; refine al ?_) | (refine is_box ?_; refine bx ?_))
  refine go_call rfl rfl (c_awake w2) ?_
  rintro r w3 ⟨rfl, hx3⟩
  have hx3' := hx2'.trans hx3
  repeat (first | refine sp ?_ | (refine is_load ?_; refine ld ?_) | (refine is_store ?_; refine sr ?_) | (refine is_alloc ?_; refine al ?_) | (refine is_box ?_; refine bx ?_))
  refine go_loop (G := Nat) [10] (fun i => [.int .i64 (i : Int)]) [(0, .slice sa ms.length cap), (3, .slice sb (frames ms).length cb), (4, .int .i64 (la : Int)), (8, .slice sc ms.length cc)]
    (fun i w' => i ≤ ms.length ∧ Ext w3 w') (fun i => ms.length - i) 0 rfl ⟨rfl, rfl, rfl, rfl, trivial⟩ ⟨by simp, Fr.refl _ _⟩ ?_
  rintro i w4 ⟨hi4, hx4⟩
  have hx4' := hx3'.trans hx4
  by_cases hlt4 : i < ms.length
  · obtain ⟨b, o, su, cu, rfl, hcell, hbu1, hcu, hru⟩ := BL.cells hr hvl hbs hlt4
    have hcell1 := hx4'.cell hcell (fun h => h)
    obtain ⟨b', o', su', cu', rfl, hcell', hbu', hcu', hru'⟩ := BL.cells hrc hul hbu hlt4
    have hcell1' := (hx3.trans hx4).cell hcell' (fun h => h)
    have hd : Ext w4 (w4.drewN 1) := (Fr.refl _ _).drewN 1
    have h100 := hm _ (List.getElem_mem hlt4)
    repeat (first | refine sp ?_ | (refine is_load ?_; refine ld ?_) | (refine is_store ?_; refine sr ?_) | (refine is_alloc ?_; refine al ?_) | (refine is_box ?_; refine bx ?_) | (refine isl_load ?_; refine ldl ?_) | (refine isl_store ?_; refine srl ?_) | (refine isl_alloc ?_; refine all' ?_) | (refine isl_box ?_; refine bxl ?_) | refine dr Try.follows ?_)
    refine gol_call rfl rfl (c_Same _ _ _ _ (w4.drewN 1) (by omega) (((hbu'.ext hx3).ext hx4).ext hd) ((hbu1.ext hx4').ext hd)) ?_
    rintro r w5 ⟨rfl, hx5⟩
    refine ⟨hd.trans hx5, ?_⟩
    rw [sameB_self]
    repeat (first | refine sp ?_ | (refine is_load ?_; refine ld ?_) | (refine is_store ?_; refine sr ?_) | (refine is_alloc ?_; refine al ?_) | (refine is_box ?_; refine bx ?_) | (refine isl_load ?_; refine ldl ?_) | (refine isl_store ?_; refine srl ?_) | (refine isl_alloc ?_; refine all' ?_) | (refine isl_box ?_; refine bxl ?_) | refine dr Try.follows ?_)
    exact go_stop (G := Nat) (i+1) rfl ⟨rfl, rfl, rfl, rfl, trivial⟩ ⟨hlt4, (hx4.trans hd).trans hx5⟩ (by show ms.length - (i+1) < ms.length - i; omega)
  obtain rfl : i = ms.length := by omega
  by_cases h0 : (frames ms).length = 0
  · repeat (first | refine sp ?_ | (refine is_load ?_; refine ld ?_) | (refine is_store ?_; refine sr ?_) | (refine is_alloc ?_; refine al ?_) | (refine is_box ?_; refine bx ?_))
    exact go_ret1 rfl rfl ⟨_, rfl, rfl, hx4'⟩
  have hne : 0 < ms.length := by
    cases ms with
    | nil => simp [frames] at h0
    | cons m ms => simp
  have htk : frames ms = frames (ms.take (ms.length - 1)) ++ frame (ms[ms.length - 1]'(by omega)) := by
    rw [← frames_take (by omega), show ms.length - 1 + 1 = ms.length by omega, List.take_length]
  have hfl2 := frame_len (ms[ms.length - 1]'(by omega))
  have hsum := congrArg List.length htk
  rw [List.length_append] at hsum
  obtain ⟨e3, e4⟩ := split_cut (j := ms.length - 1) (k := (frames ms).length - 1) (f := (frames ms).length - 1 + 1) hm (by omega) (by omega) (by intro _; rw [show ms.length - 1 + 1 = ms.length by omega, List.take_length]; omega) (by omega) (by have := le_frames ms; omega)
  repeat (first | refine sp ?_ | (refine is_load ?_; refine ld ?_) | (refine is_store ?_; refine sr ?_) | (refine is_alloc ?_; refine al ?_) | (refine is_box ?_; refine bx ?_))
  refine go_p rfl (pr_sl (lo := 0) (hi := (frames ms).length - 1) (by decide) rfl rfl ⟨_, _, rfl, by omega⟩ (by omega) (by omega)) ?_
  have hcut := byCut (lo := 0) (hi := (frames ms).length - 1) (((hrb.ext hx2).ext hx3).ext hx4) (by omega) (by omega) hcb
  rw [List.drop_zero] at hcut
  have hlt5 : ((frames ms).take ((frames ms).length - 1)).length = (frames ms).length - 1 := by rw [List.length_take]; omega
  refine go_call rfl rfl (c_Split _ _ w4 (by omega) hcut) ?_
  rw [hlt5, e3]
  rintro r w5 ⟨x, rfl, hls5, hx5⟩
  simp only at hls5 ⊢
  obtain ⟨sd, cd, us', rfl, hcd, hrd, hud, hbd⟩ := hls5.bl
  have hltake : (ms.take (ms.length - 1)).length = ms.length - 1 := by rw [List.length_take]; omega
  rw [hltake]
  repeat (first | refine sp ?_ | (refine is_load ?_; refine ld ?_) | (refine is_store ?_; refine sr ?_) | (refine is_alloc ?_; refine al ?_) | (refine is_box ?_; refine bx ?_))
  exact go_ret1 rfl rfl ⟨_, rfl, rfl, hx4'.trans hx5⟩

def lens (ms : List (List (BitVec 8))) (i : Nat) : Int := ((frames (ms.take (i+1))).length : Nat)

set_option maxHeartbeats 2000000 in
theorem c_LawTornTail (v : Value) (ms : List (List (BitVec 8))) (c : Int) (w : World) (hl : ms.length ≤ 9223372036854775807) (hb0 : ∀ m ∈ ms, m.length ≤ 9223372036854775807) (hv : BL w v ms) (hc : -9223372036854775808 ≤ c ∧ c ≤ 9223372036854775807) :
    Calls Try.prog 11 [v, .int .i64 c].toArray w (Ret fun r w' => r = .bool true ∧ Ext w w') := by
  obtain ⟨sa, cap, vs, rfl, hcap, hr, hvl, hbs⟩ := hv
  refine calls_go Try.func11 rfl Try.ntmps11 (Nat.le_of_ble_eq_true rfl) ?_
  by_cases h12 : 12 < ms.length
  · repeat (first | refine sp ?_ | (refine is_load ?_; refine ld ?_) | (refine is_store ?_; refine sr ?_) | (refine is_alloc ?_; refine al ?_) | (refine is_box ?_; refine bx ?_))
    refine go_call rfl rfl (c_awake w) ?_
    rintro r w1 ⟨rfl, hx⟩
    repeat (first | refine sp ?_ | (refine is_load ?_; refine ld ?_) | (refine is_store ?_; refine sr ?_) | (refine is_alloc ?_; refine al ?_) | (refine is_box ?_; refine bx ?_))
    exact go_ret1 rfl rfl ⟨_, rfl, rfl, hx⟩
  repeat (first | refine sp ?_ | (refine is_load ?_; refine ld ?_) | (refine is_store ?_; refine sr ?_) | (refine is_alloc ?_; refine al ?_) | (refine is_box ?_; refine bx ?_))
  refine go_loop (G := Nat × Value × Value) [7, 5, 6] (fun g => [.int .i64 (g.1 : Int), g.2.1, g.2.2]) [(0, .slice sa ms.length cap), (1, .int .i64 c)]
    (fun g w' => g.1 ≤ ms.length ∧ (∀ m ∈ ms.take g.1, m.length ≤ 100) ∧ OwnB w' w.heap.size g.2.1 (frames (ms.take g.1)) ∧ Own w' w.heap.size 3 1 g.2.2 g.1 ((List.range g.1).map fun i => Value.int .i64 (lens ms i)) ∧ Ext w w') (fun g => ms.length - g.1)
    (0, .slice none 0 0, .slice none 0 0) rfl ⟨rfl, rfl, trivial⟩ ⟨by simp, by simp, OwnB.nil _ _, Own.nil _ _ _ _, Fr.refl _ _⟩ ?_
  rintro ⟨i, vb, ve⟩ w1 ⟨hi, hm, hvb, hve, hx⟩
  simp only at hi hm hvb hve
  have hfl := frames_len _ hm
  rw [List.length_take, Nat.min_eq_left hi] at hfl
  have hvbb := hvb.by
  obtain ⟨sb, cb, rfl, hcb, hrb⟩ := hvb.by
  by_cases hlt : i < ms.length
  · obtain ⟨b, o, su, cu, rfl, hcell, hbu, hcu, hru⟩ := BL.cells hr hvl hbs hlt
    have hcell1 := hx.cell hcell (fun h => h)
    by_cases h100 : 100 < ms[i].length
    · have hub := hb0 _ (List.getElem_mem hlt)
      repeat (first | refine sp ?_ | (refine is_load ?_; refine ld ?_) | (refine is_store ?_; refine sr ?_) | (refine is_alloc ?_; refine al ?_) | (refine is_box ?_; refine bx ?_))
      refine go_call rfl rfl (c_awake w1) ?_
      rintro r w2 ⟨rfl, hx2⟩
      repeat (first | refine sp ?_ | (refine is_load ?_; refine ld ?_) | (refine is_store ?_; refine sr ?_) | (refine is_alloc ?_; refine al ?_) | (refine is_box ?_; refine bx ?_))
      exact go_ret1 rfl rfl ⟨_, rfl, rfl, hx.trans hx2⟩
    · have hfm := frame_len ms[i]
      repeat (first | refine sp ?_ | (refine is_load ?_; refine ld ?_) | (refine is_store ?_; refine sr ?_) | (refine is_alloc ?_; refine al ?_) | (refine is_box ?_; refine bx ?_))
      refine go_call rfl rfl (c_refFrame _ ms[i] w1 (by omega) (hbu.ext hx)) ?_
      rintro r w2 ⟨hox, hx2⟩
      refine go_call rfl rfl (c_Join _ _ _ _ w2 (by omega) (hvbb.ext hx2) hox.by) ?_
      rintro r w3 ⟨ho3, hx3⟩
      have hx3' := (hx.trans hx2).trans hx3
      have hfl3 : (frames (ms.take i) ++ frame ms[i]).length = lens ms i := by rw [← frames_take hlt]; rfl
      obtain ⟨s3, c3, rfl, hc3, hr3⟩ := ho3.by
      repeat (first | refine sp ?_ | (refine is_load ?_; refine ld ?_) | (refine is_store ?_; refine sr ?_) | (refine is_alloc ?_; refine al ?_) | (refine is_box ?_; refine bx ?_))
      refine go_as 43 (u' := .int .i64 (lens ms i)) rfl (by rw [← hfl3]) ?_
      refine go_lit rfl rfl rfl (by decide) (by decide) rfl ?_
      refine go_push rfl rfl rfl rfl rfl hx3' ((hve.ext hx2).ext hx3) rfl (by unfold maxLen; omega) (by omega) ?_
      intro v4 w4 ho4 hx4 hg4
      repeat (first | refine sp ?_ | (refine is_load ?_; refine ld ?_) | (refine is_store ?_; refine sr ?_) | (refine is_alloc ?_; refine al ?_) | (refine is_box ?_; refine bx ?_))
      refine go_stop (G := Nat × Value × Value) (i+1, _, v4) rfl ⟨rfl, rfl, trivial⟩ ⟨hlt, ?_, ?_, ?_, hx4⟩ (by show ms.length - (i+1) < ms.length - i; omega)
      · intro m hmm
        dsimp only at hmm
        rw [List.take_succ_eq_append_getElem hlt, List.mem_append] at hmm
        rcases hmm with h | h
        · exact hm m h
        · simp at h; subst h; omega
      · dsimp only
        rw [frames_take hlt]
        have hxa : Ext w3 (w3.alloc (.cells #[Value.int .i64 (lens ms i)] 3)) := (Fr.refl _ _).alloc _
        have h1 := OwnB.ext (OwnB.mono ho3 (hx.trans hx2).size) hxa
        exact Own.grown h1 hg4 (Own.ne h1 (((hve.ext hx2).ext hx3).ext hxa) (by decide))
      · dsimp only
        rw [List.range_succ, List.map_append]
        exact ho4
  obtain rfl : i = ms.length := by omega
  rw [List.take_length] at hm hvb hvbb hfl hrb hcb ⊢
  have hke := Int.emod_nonneg c (show ((frames ms).length : Int) + 1 ≠ 0 by omega)
  have hke2 := Int.emod_lt_of_pos c (show 0 < ((frames ms).length : Int) + 1 by omega)
  repeat (first | refine sp ?_ | (refine is_load ?_; refine ld ?_) | (refine is_store ?_; refine sr ?_) | (refine is_alloc ?_; refine al ?_) | (refine is_box ?_; refine bx ?_))
  refine go_call rfl rfl (c_Mod c _ w1 hc (by omega)) ?_
  rintro r w2 ⟨rfl, rfl⟩
  generalize c % (((frames ms).length : Int) + 1) = ki at *
  obtain ⟨k, rfl⟩ : ∃ k : Nat, ki = k := ⟨ki.toNat, by omega⟩
  obtain ⟨se, ce, rfl, hce, hre⟩ := hve.slice
  repeat (first | refine sp ?_ | (refine is_load ?_; refine ld ?_) | (refine is_store ?_; refine sr ?_) | (refine is_alloc ?_; refine al ?_) | (refine is_box ?_; refine bx ?_))
  refine go_loop (G := Nat) [11, 9, 10] (fun j => [.int .i64 (j : Int), .int .i64 (j : Int), .int .i64 ((frames (ms.take j)).length : Nat)]) [(5, .slice sb (frames ms).length cb), (6, .slice se ms.length ce), (8, .int .i64 (k : Int))]
    (fun j w' => j ≤ ms.length ∧ (frames (ms.take j)).length ≤ k ∧ Ext w2 w') (fun j => ms.length - j) 0 rfl ⟨rfl, rfl, rfl, trivial⟩ ⟨by simp, by simp [frames], Fr.refl _ _⟩ ?_
  rintro j w3 ⟨hj, hjk, hx3⟩
  by_cases hcond : j < ms.length ∧ (frames (ms.take (j+1))).length ≤ k
  · obtain ⟨hlt, hlek⟩ := hcond
    have hcell : ((List.range ms.length).map fun i => Value.int .i64 (lens ms i))[j]? = some (.int .i64 (lens ms j)) := by simp [hlt]
    obtain ⟨b, o, rfl, hc1⟩ := (hre.ext hx3) j _ hcell
    have hle : lens ms j ≤ k := by unfold lens; omega
    repeat (first | refine sp ?_ | (refine is_load ?_; refine ld ?_) | (refine is_store ?_; refine sr ?_) | (refine is_alloc ?_; refine al ?_) | (refine is_box ?_; refine bx ?_) | (refine isl_load ?_; refine ldl ?_) | (refine isl_store ?_; refine srl ?_) | (refine isl_alloc ?_; refine all' ?_) | (refine isl_box ?_; refine bxl ?_) | refine dr Try.follows ?_)
    exact go_stop (G := Nat) (j+1) rfl ⟨rfl, rfl, rfl, trivial⟩ ⟨hlt, hlek, hx3.drewN 1⟩ (by show ms.length - (j+1) < ms.length - j; omega)
  · obtain ⟨e1, e2⟩ := split_cut (j := j) (k := k) (f := ((frames ms).take k).length + 1) hm hj hjk (by intro h; omega) (by omega) (by rw [List.length_take, Nat.min_eq_left (by omega)]; have := le_frames (ms.take j); rw [List.length_take] at this; omega)
    have hcut := byCut (lo := 0) (hi := k) (hrb.ext hx3) (by omega) (by omega) hcb
    rw [List.drop_zero] at hcut
    have hlk : ((frames ms).take k).length = k := by rw [List.length_take]; omega
    have hjl : (ms.take j).length = j := by rw [List.length_take]; omega
    by_cases hlt : j < ms.length
    · have hcell : ((List.range ms.length).map fun i => Value.int .i64 (lens ms i))[j]? = some (.int .i64 (lens ms j)) := by simp [hlt]
      obtain ⟨b, o, rfl, hc1⟩ := (hre.ext hx3) j _ hcell
      have hle : (k : Int) < lens ms j := by unfold lens; omega
      repeat (first | refine sp ?_ | (refine is_load ?_; refine ld ?_) | (refine is_store ?_; refine sr ?_) | (refine is_alloc ?_; refine al ?_) | (refine is_box ?_; refine bx ?_) | (refine isl_load ?_; refine ldl ?_) | (refine isl_store ?_; refine srl ?_) | (refine isl_alloc ?_; refine all' ?_) | (refine isl_box ?_; refine bxl ?_) | refine dr Try.follows ?_)
      refine go_p rfl (pr_sl (lo := 0) (hi := k) (by decide) rfl rfl ⟨_, _, rfl, rfl⟩ (by omega) (by omega)) ?_
      refine go_call rfl rfl (c_Split _ _ w3 (by omega) hcut) ?_
      rw [e1]
      rintro r w4 ⟨x, rfl, hls, hx4⟩
      simp only at hls ⊢
      have hx4' := (hx.trans hx3).trans hx4
      obtain ⟨sd, cd, us', rfl, hcd, hrd, hud, hbd⟩ := hls.bl
      rw [hjl]
      repeat (first | refine sp ?_ | (refine is_load ?_; refine ld ?_) | (refine is_store ?_; refine sr ?_) | (refine is_alloc ?_; refine al ?_) | (refine is_box ?_; refine bx ?_) | (refine isl_load ?_; refine ldl ?_) | (refine isl_store ?_; refine srl ?_) | (refine isl_alloc ?_; refine all' ?_) | (refine isl_box ?_; refine bxl ?_) | refine dr Try.follows ?_)
      refine go_p rfl (pr_sl (lo := 0) (hi := k) (by decide) rfl rfl ⟨_, _, rfl, rfl⟩ (by omega) (by omega)) ?_
      repeat (first | refine sp ?_ | (refine is_load ?_; refine ld ?_) | (refine is_store ?_; refine sr ?_) | (refine is_alloc ?_; refine al ?_) | (refine is_box ?_; refine bx ?_) | (refine isl_load ?_; refine ldl ?_) | (refine isl_store ?_; refine srl ?_) | (refine isl_alloc ?_; refine all' ?_) | (refine isl_box ?_; refine bxl ?_) | refine dr Try.follows ?_)
      refine go_call rfl rfl (c_Next _ _ ((frames (ms.take j)).length : Nat) w4 (by omega) (hcut.ext hx4) (by omega)) ?_
      rintro r w5 ⟨p, rfl, hp, hx5⟩
      rw [e2]
      have hx5' := hx4'.trans hx5
      repeat (first | refine sp ?_ | (refine is_load ?_; refine ld ?_) | (refine is_store ?_; refine sr ?_) | (refine is_alloc ?_; refine al ?_) | (refine is_box ?_; refine bx ?_) | (refine isl_load ?_; refine ldl ?_) | (refine isl_store ?_; refine srl ?_) | (refine isl_alloc ?_; refine all' ?_) | (refine isl_box ?_; refine bxl ?_) | refine dr Try.follows ?_)
      refine go_call rfl rfl (c_awake w5) ?_
      rintro r w6 ⟨rfl, hx6⟩
      repeat (first | refine sp ?_ | (refine is_load ?_; refine ld ?_) | (refine is_store ?_; refine sr ?_) | (refine is_alloc ?_; refine al ?_) | (refine is_box ?_; refine bx ?_) | (refine isl_load ?_; refine ldl ?_) | (refine isl_store ?_; refine srl ?_) | (refine isl_alloc ?_; refine all' ?_) | (refine isl_box ?_; refine bxl ?_) | refine dr Try.follows ?_)
      exact go_ret1 rfl rfl ⟨_, rfl, rfl, hx5'.trans hx6⟩
    · repeat (first | refine sp ?_ | (refine is_load ?_; refine ld ?_) | (refine is_store ?_; refine sr ?_) | (refine is_alloc ?_; refine al ?_) | (refine is_box ?_; refine bx ?_) | (refine isl_load ?_; refine ldl ?_) | (refine isl_store ?_; refine srl ?_) | (refine isl_alloc ?_; refine all' ?_) | (refine isl_box ?_; refine bxl ?_) | refine dr Try.follows ?_)
      refine go_p rfl (pr_sl (lo := 0) (hi := k) (by decide) rfl rfl ⟨_, _, rfl, rfl⟩ (by omega) (by omega)) ?_
      refine go_call rfl rfl (c_Split _ _ w3 (by omega) hcut) ?_
      rw [e1]
      rintro r w4 ⟨x, rfl, hls, hx4⟩
      simp only at hls ⊢
      have hx4' := (hx.trans hx3).trans hx4
      obtain ⟨sd, cd, us', rfl, hcd, hrd, hud, hbd⟩ := hls.bl
      rw [hjl]
      repeat (first | refine sp ?_ | (refine is_load ?_; refine ld ?_) | (refine is_store ?_; refine sr ?_) | (refine is_alloc ?_; refine al ?_) | (refine is_box ?_; refine bx ?_) | (refine isl_load ?_; refine ldl ?_) | (refine isl_store ?_; refine srl ?_) | (refine isl_alloc ?_; refine all' ?_) | (refine isl_box ?_; refine bxl ?_) | refine dr Try.follows ?_)
      refine go_p rfl (pr_sl (lo := 0) (hi := k) (by decide) rfl rfl ⟨_, _, rfl, rfl⟩ (by omega) (by omega)) ?_
      repeat (first | refine sp ?_ | (refine is_load ?_; refine ld ?_) | (refine is_store ?_; refine sr ?_) | (refine is_alloc ?_; refine al ?_) | (refine is_box ?_; refine bx ?_) | (refine isl_load ?_; refine ldl ?_) | (refine isl_store ?_; refine srl ?_) | (refine isl_alloc ?_; refine all' ?_) | (refine isl_box ?_; refine bxl ?_) | refine dr Try.follows ?_)
      refine go_call rfl rfl (c_Next _ _ ((frames (ms.take j)).length : Nat) w4 (by omega) (hcut.ext hx4) (by omega)) ?_
      rintro r w5 ⟨p, rfl, hp, hx5⟩
      rw [e2]
      have hx5' := hx4'.trans hx5
      repeat (first | refine sp ?_ | (refine is_load ?_; refine ld ?_) | (refine is_store ?_; refine sr ?_) | (refine is_alloc ?_; refine al ?_) | (refine is_box ?_; refine bx ?_) | (refine isl_load ?_; refine ldl ?_) | (refine isl_store ?_; refine srl ?_) | (refine isl_alloc ?_; refine all' ?_) | (refine isl_box ?_; refine bxl ?_) | refine dr Try.follows ?_)
      refine go_call rfl rfl (c_awake w5) ?_
      rintro r w6 ⟨rfl, hx6⟩
      repeat (first | refine sp ?_ | (refine is_load ?_; refine ld ?_) | (refine is_store ?_; refine sr ?_) | (refine is_alloc ?_; refine al ?_) | (refine is_box ?_; refine bx ?_) | (refine isl_load ?_; refine ldl ?_) | (refine isl_store ?_; refine srl ?_) | (refine isl_alloc ?_; refine all' ?_) | (refine isl_box ?_; refine bxl ?_) | refine dr Try.follows ?_)
      exact go_ret1 rfl rfl ⟨_, rfl, rfl, hx5'.trans hx6⟩
end Go.Proofs.Ytfgkleggbcpinaa
