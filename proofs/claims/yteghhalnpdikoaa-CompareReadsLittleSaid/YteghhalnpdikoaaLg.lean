/-
  The reference's searches in a list; exact searches in a tree.
-/
import Derived.Test.YteghhalnpdikoaaLo
set_option linter.unusedVariables false
namespace Go.Proofs.Yteghhalnpdikoaa
open Go.Vc

/-! ### Sorted lists -/

theorem filter_down {P : Int → Bool} (hm : ∀ a b, a ≤ b → P b = true → P a = true) : ∀ {l : List (Int × Int)}, Srt l → l.filter (pK P) = l.take (cntF (pK P) l) ∧ l.filter (pK fun k => !P k) = l.drop (cntF (pK P) l)
  | [], _ => by simp [cntF]
  | e :: l, h => by
    obtain ⟨h1, h2⟩ := List.pairwise_cons.1 h
    obtain ⟨i1, i2⟩ := filter_down hm h2
    by_cases hp : P e.1 = true
    · rw [cntF_cons, if_pos (by unfold pK; exact hp), Nat.add_comm 1, List.take_succ_cons, List.drop_succ_cons, ← i1, ← i2]
      constructor
      · rw [List.filter_cons, if_pos (by unfold pK; exact hp)]
      · rw [List.filter_cons, if_neg (by unfold pK; show ¬ (!P e.1) = true; rw [hp]; decide)]
    · have hn : ∀ u ∈ e :: l, pK P u = false := fun u hu => by
        unfold pK
        rcases List.mem_cons.1 hu with rfl | hu
        · simpa using hp
        · have := h1 u hu
          cases hc : P u.1 with
          | false => rfl
          | true => exact absurd (hm e.1 u.1 (by omega) hc) hp
      rw [cntF_none hn]
      constructor
      · rw [List.filter_eq_nil_iff.2 (fun u hu => by rw [hn u hu]; decide)]; rfl
      · rw [List.drop_zero, List.filter_eq_self]
        intro u hu
        have := hn u hu
        unfold pK at this ⊢
        show (!P u.1) = true
        rw [this]; rfl

theorem take_last {l : List (Int × Int)} {n : Nat} (hn : n ≤ l.length) : (l.take n).getLast? = entAt l ((n : Int) - 1) := by
  unfold entAt
  rcases Nat.eq_zero_or_pos n with h | h
  · subst h; simp
  · rw [if_neg (by omega), List.getLast?_eq_getElem?, List.length_take, Nat.min_eq_left hn, List.getElem?_take, if_pos (by omega)]
    congr 1; omega
theorem drop_head {l : List (Int × Int)} {n : Nat} : (l.drop n).head? = entAt l (n : Int) := by
  unfold entAt
  rw [if_neg (by omega), List.head?_drop]; rfl

def getE (l : List (Int × Int)) (x : Int) : Option Int := (l.find? fun e => decide (e.1 = x)).map (·.2)
def hasN (l : List (Int × Int)) (x : Int) : Nat := if (getE l x).isSome then 1 else 0
def rkN (l : List (Int × Int)) (x : Int) : Nat := cntF (befP false x) l

theorem cnt_le {x : Int} : ∀ {l : List (Int × Int)}, Srt l → cntF (pK fun k => decide (k ≤ x)) l = rkN l x + hasN l x
  | [], _ => rfl
  | e :: l, h => by
    obtain ⟨h1, h2⟩ := List.pairwise_cons.1 h
    have ih := cnt_le h2 (x := x)
    unfold rkN at ih ⊢
    rw [cntF_cons, cntF_cons]
    rcases Int.lt_trichotomy e.1 x with hc | hc | hc
    · have : hasN (e :: l) x = hasN l x := by
        unfold hasN getE
        rw [List.find?_cons_of_neg (by simp; omega)]
      rw [if_pos (by simp [pK]; omega), if_pos (by simp [befP]; omega), this]; omega
    · have hh : hasN (e :: l) x = 1 := by
        unfold hasN getE
        rw [List.find?_cons_of_pos (by simp [hc])]; rfl
      have n1 : cntF (pK fun k => decide (k ≤ x)) l = 0 := cntF_none fun u hu => by have := h1 u hu; simp [pK]; omega
      have n2 : cntF (befP false x) l = 0 := cntF_none fun u hu => by have := h1 u hu; simp [befP]; omega
      rw [if_pos (by simp [pK]; omega), if_neg (by simp [befP]; omega), hh, n1, n2]
    · have hh : hasN (e :: l) x = 0 := by
        unfold hasN getE
        rw [List.find?_eq_none.2]; · rfl
        intro u hu
        rcases List.mem_cons.1 hu with rfl | hu
        · simp; omega
        · have := h1 u hu; simp; omega
      have n1 : cntF (pK fun k => decide (k ≤ x)) l = 0 := cntF_none fun u hu => by have := h1 u hu; simp [pK]; omega
      have n2 : cntF (befP false x) l = 0 := cntF_none fun u hu => by have := h1 u hu; simp [befP]; omega
      rw [if_neg (by simp [pK]; omega), if_neg (by simp [befP]; omega), hh, n1, n2]

theorem rk_lt (x : Int) (l : List (Int × Int)) : cntF (pK fun k => decide (k < x)) l = rkN l x := rfl

/-- The four neighbors, by the place of the key. -/
theorem nb_below {l : List (Int × Int)} (h : Srt l) (x : Int) : (l.filter (pK fun k => decide (k < x))).getLast? = entAt l ((rkN l x : Int) - 1) := by
  rw [(filter_down (P := fun k => decide (k < x)) (fun a b h1 h2 => by simp at h2 ⊢; omega) h).1, rk_lt, take_last (n := rkN l x) (cntF_le _ _)]
theorem nb_floor {l : List (Int × Int)} (h : Srt l) (x : Int) : (l.filter (pK fun k => decide (k ≤ x))).getLast? = entAt l (((rkN l x + hasN l x : Nat) : Int) - 1) := by
  rw [(filter_down (P := fun k => decide (k ≤ x)) (fun a b h1 h2 => by simp at h2 ⊢; omega) h).1, ← cnt_le h, take_last (cntF_le _ _)]
theorem nb_ceiling {l : List (Int × Int)} (h : Srt l) (x : Int) : (l.filter (pK fun k => decide (x ≤ k))).head? = entAt l (rkN l x : Int) := by
  have := (filter_down (P := fun k => decide (k < x)) (fun a b h1 h2 => by simp at h2 ⊢; omega) h).2
  rw [rk_lt] at this
  rw [← drop_head, ← this]
  congr 2
  funext e; unfold pK; simp only []
  by_cases hc : e.1 < x <;> simp [hc] <;> omega
theorem nb_above {l : List (Int × Int)} (h : Srt l) (x : Int) : (l.filter (pK fun k => decide (x < k))).head? = entAt l ((rkN l x + hasN l x : Nat) : Int) := by
  have := (filter_down (P := fun k => decide (k ≤ x)) (fun a b h1 h2 => by simp at h2 ⊢; omega) h).2
  rw [cnt_le h] at this
  rw [← drop_head, ← this]
  congr 2
  funext e; unfold pK; simp only []
  by_cases hc : e.1 ≤ x <;> simp [hc] <;> omega

/-! ### The reference -/

set_option maxHeartbeats 1000000 in
theorem c_refRank (w : World) (hi : Nat) (lv : Value) (l : List (Int × Int)) (x : Int) (hr : RdU w hi lv entC l) (hlen : l.length ≤ 1000000) :
    Calls Try.prog 82 [lv, .int .i64 x].toArray w (Ret fun v w' => v = .int .i64 (rkN l x : Int) ∧ w' = w) := by
  have hr0 := hr
  obtain ⟨sa, cap, rfl, hlc, _, _⟩ := hr0
  refine calls_go Try.func82 rfl Try.ntmps82 (Nat.le_of_ble_eq_true rfl) ?_
  repeat (first | refine sp ?_ | (refine is_load ?_; refine ld ?_) | (refine is_store ?_; refine sr ?_) | (refine is_alloc ?_; refine al ?_) | (refine is_box ?_; refine bx ?_) | (refine isl_load ?_; refine ldl ?_) | (refine isl_store ?_; refine srl ?_) | (refine isl_alloc ?_; refine all' ?_) | (refine isl_box ?_; refine bxl ?_) | refine dr Try.follows ?_)
  refine go_loop (G := Nat) [5, 6] (fun k => [.int .i64 (rkN (l.take k) x : Int), .int .i64 (k : Int)]) [(0, .slice sa l.length cap), (1, .int .i64 x)]
    (fun k w' => k ≤ l.length ∧ w' = w) (fun k => l.length - k) 0 rfl ⟨rfl, rfl, trivial⟩ ⟨by omega, rfl⟩ ?_
  rintro k w ⟨hk, rfl⟩
  by_cases hlt : k < l.length
  · obtain ⟨b, o, es, _, hcell⟩ := hr.at (m := 2) (fun _ => rfl) (by omega) hlt
    subst es
    have e0 := hcell 0 (.int .i64 l[k].1) rfl
    have hs : rkN (l.take (k + 1)) x = rkN (l.take k) x + (if l[k].1 < x then 1 else 0) := by
      unfold rkN
      rw [List.take_succ_eq_append_getElem hlt, cntF_append, cntF_cons]
      simp [befP, cntF]
    have hb : rkN (l.take k) x ≤ k := Nat.le_trans (cntF_le _ _) (by rw [List.length_take]; omega)
    generalize l[k] = e at *
    by_cases hc : e.1 < x
    · rw [if_pos hc] at hs
      repeat (first | refine sp ?_ | (refine is_load ?_; refine ld ?_) | (refine is_store ?_; refine sr ?_) | (refine is_alloc ?_; refine al ?_) | (refine is_box ?_; refine bx ?_) | (refine isl_load ?_; refine ldl ?_) | (refine isl_store ?_; refine srl ?_) | (refine isl_alloc ?_; refine all' ?_) | (refine isl_box ?_; refine bxl ?_) | refine dr Try.follows ?_)
      refine go_as 5 (u' := .int .i64 (rkN (l.take (k + 1)) x : Int)) rfl (by rw [hs]; rfl) ?_
      exact go_stop (G := Nat) (k + 1) rfl ⟨rfl, rfl, trivial⟩ ⟨hlt, rfl⟩ (by show l.length - (k + 1) < l.length - k; omega)
    · rw [if_neg hc] at hs
      repeat (first | refine sp ?_ | (refine is_load ?_; refine ld ?_) | (refine is_store ?_; refine sr ?_) | (refine is_alloc ?_; refine al ?_) | (refine is_box ?_; refine bx ?_) | (refine isl_load ?_; refine ldl ?_) | (refine isl_store ?_; refine srl ?_) | (refine isl_alloc ?_; refine all' ?_) | (refine isl_box ?_; refine bxl ?_) | refine dr Try.follows ?_)
      refine go_as 5 (u' := .int .i64 (rkN (l.take (k + 1)) x : Int)) rfl (by rw [hs, Nat.add_zero]) ?_
      exact go_stop (G := Nat) (k + 1) rfl ⟨rfl, rfl, trivial⟩ ⟨hlt, rfl⟩ (by show l.length - (k + 1) < l.length - k; omega)
  · obtain rfl : k = l.length := by omega
    repeat (first | refine sp ?_ | (refine is_load ?_; refine ld ?_) | (refine is_store ?_; refine sr ?_) | (refine is_alloc ?_; refine al ?_) | (refine is_box ?_; refine bx ?_) | (refine isl_load ?_; refine ldl ?_) | (refine isl_store ?_; refine srl ?_) | (refine isl_alloc ?_; refine all' ?_) | (refine isl_box ?_; refine bxl ?_) | refine dr Try.follows ?_)
    exact go_ret1 rfl rfl ⟨_, rfl, by rw [List.take_length], rfl⟩

def getV (o : Option Int) : Value := .tuple #[.int .i64 (o.getD 0), .bool o.isSome]

set_option maxHeartbeats 1000000 in
theorem c_refGet (w : World) (hi : Nat) (lv : Value) (l : List (Int × Int)) (x : Int) (hr : RdU w hi lv entC l) (hlen : l.length ≤ 1000000) :
    Calls Try.prog 64 [lv, .int .i64 x].toArray w (Ret fun v w' => v = getV (getE l x) ∧ w' = w) := by
  have hr0 := hr
  obtain ⟨sa, cap, rfl, hlc, _, _⟩ := hr0
  refine calls_go Try.func64 rfl Try.ntmps64 (Nat.le_of_ble_eq_true rfl) ?_
  repeat (first | refine sp ?_ | (refine is_load ?_; refine ld ?_) | (refine is_store ?_; refine sr ?_) | (refine is_alloc ?_; refine al ?_) | (refine is_box ?_; refine bx ?_) | (refine isl_load ?_; refine ldl ?_) | (refine isl_store ?_; refine srl ?_) | (refine isl_alloc ?_; refine all' ?_) | (refine isl_box ?_; refine bxl ?_) | refine dr Try.follows ?_)
  refine go_loop (G := Nat) [6] (fun k => [.int .i64 (k : Int)]) [(0, .slice sa l.length cap), (1, .int .i64 x)]
    (fun k w' => k ≤ l.length ∧ getE (l.drop k) x = getE l x ∧ w' = w) (fun k => l.length - k) 0 rfl ⟨rfl, rfl, trivial⟩ ⟨by omega, rfl, rfl⟩ ?_
  rintro k w ⟨hk, hg, rfl⟩
  by_cases hlt : k < l.length
  · obtain ⟨b, o, es, _, hcell⟩ := hr.at (m := 2) (fun _ => rfl) (by omega) hlt
    subst es
    have e0 := hcell 0 (.int .i64 l[k].1) rfl
    have e1 := hcell 1 (.int .i64 l[k].2) rfl
    rw [List.drop_eq_getElem_cons hlt] at hg
    generalize l[k] = e at *
    by_cases hc : e.1 = x
    · have : getE l x = some e.2 := by rw [← hg]; unfold getE; rw [List.find?_cons_of_pos (by simp [hc])]; rfl
      rw [this]
      repeat (first | refine sp ?_ | (refine is_load ?_; refine ld ?_) | (refine is_store ?_; refine sr ?_) | (refine is_alloc ?_; refine al ?_) | (refine is_box ?_; refine bx ?_) | (refine isl_load ?_; refine ldl ?_) | (refine isl_store ?_; refine srl ?_) | (refine isl_alloc ?_; refine all' ?_) | (refine isl_box ?_; refine bxl ?_) | refine dr Try.follows ?_)
      exact go_ret2 rfl rfl rfl ⟨_, rfl, rfl, rfl⟩
    · have : getE (l.drop (k + 1)) x = getE l x := by rw [← hg]; unfold getE; rw [List.find?_cons_of_neg (by simp [hc])]
      repeat (first | refine sp ?_ | (refine is_load ?_; refine ld ?_) | (refine is_store ?_; refine sr ?_) | (refine is_alloc ?_; refine al ?_) | (refine is_box ?_; refine bx ?_) | (refine isl_load ?_; refine ldl ?_) | (refine isl_store ?_; refine srl ?_) | (refine isl_alloc ?_; refine all' ?_) | (refine isl_box ?_; refine bxl ?_) | refine dr Try.follows ?_)
      exact go_stop (G := Nat) (k + 1) rfl ⟨rfl, rfl, trivial⟩ ⟨hlt, this, rfl⟩ (by show l.length - (k + 1) < l.length - k; omega)
  · have : getE l x = none := by rw [← hg, List.drop_of_length_le (by omega)]; rfl
    rw [this]
    repeat (first | refine sp ?_ | (refine is_load ?_; refine ld ?_) | (refine is_store ?_; refine sr ?_) | (refine is_alloc ?_; refine al ?_) | (refine is_box ?_; refine bx ?_) | (refine isl_load ?_; refine ldl ?_) | (refine isl_store ?_; refine srl ?_) | (refine isl_alloc ?_; refine all' ?_) | (refine isl_box ?_; refine bxl ?_) | refine dr Try.follows ?_)
    exact go_ret2 rfl rfl rfl ⟨_, rfl, rfl, rfl⟩

/-! ### The exact search in a tree -/

theorem getE_nd {i : Nat} {l r : Tr} {k v x : Int} (ho : Srt (Tr.nd i l k v r).ents) : getE (Tr.nd i l k v r).ents x = if x < k then getE l.ents x else if k < x then getE r.ents x else some v := by
  obtain ⟨hol, hor, hlt, hgt⟩ := ho.nd
  have hen : (Tr.nd i l k v r).ents = l.ents ++ (k, v) :: r.ents := rfl
  unfold getE
  rw [hen, List.find?_append]
  by_cases h1 : x < k
  · rw [if_pos h1]
    have : ((k, v) :: r.ents).find? (fun e => decide (e.1 = x)) = none := List.find?_eq_none.2 fun u hu => by
      rcases List.mem_cons.1 hu with rfl | hu
      · simp; omega
      · have := hgt u hu; simp; omega
    rw [this]; cases (l.ents.find? fun e => decide (e.1 = x)) <;> rfl
  · rw [if_neg h1]
    by_cases h2 : k < x
    · rw [if_pos h2, List.find?_eq_none.2 (fun u hu => by have := hlt u hu; simp; omega), List.find?_cons_of_neg (by simp; omega)]; rfl
    · rw [if_neg h2, List.find?_eq_none.2 (fun u hu => by have := hlt u hu; simp; omega), List.find?_cons_of_pos (by simp; omega)]; rfl

end Go.Proofs.Yteghhalnpdikoaa
