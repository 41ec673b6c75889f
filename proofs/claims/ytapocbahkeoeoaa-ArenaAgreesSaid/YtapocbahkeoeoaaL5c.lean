/-
  A caller of the arena with the references that it holds.
-/
import Derived.Test.YtapocbahkeoeoaaL5a
import Derived.Test.YtapocbahkeoeoaaS10
import Derived.Test.YtapocbahkeoeoaaSd
import Derived.Test.YtapocbahkeoeoaaMod
import Derived.Test.YtapocbahkeoeoaaRu
set_option linter.unusedVariables false
namespace Go.Proofs.Ytapocbahkeoeoaa
open Go.Vc

theorem ArP.apart {w : World} {lo p : Nat} {q : AP} {A : AR} (h : ArP w lo p q A) {b : Nat} {C : List Value} {T : TypeId} (hb : At w b C T) (h1 : T ≠ 97) (h2 : T ≠ 115) (h3 : T ≠ 50) (h4 : T ≠ 3) (h5 : T ≠ 4) (h6 : T ≠ 27) : ¬ q.fp b := by
  rintro (rfl | rfl | rfl | rfl | rfl | rfl | hf)
  · exact hb.ne h.2.hp h1 rfl
  · exact hb.ne h.2.sl.hs h2 rfl
  · exact hb.ne h.2.hn h3 rfl
  · exact hb.ne h.2.hc h4 rfl
  · exact hb.ne h.2.sl.hu h5 rfl
  · exact hb.ne h.2.sl.hg h6 rfl
  · obtain ⟨_, C', hat⟩ := h.2.sl.hr.block_lt hf
    exact hb.ne hat h6 rfl

/-- The values are integers of 64 bits. -/
def ValR (A : AR) : Prop := ∀ k, A.used k = true → -9223372036854775808 ≤ (A.node k).val ∧ (A.node k).val ≤ 9223372036854775807

/-- The caller at block 'c': the arena, and the references 'H' that are held. -/
structure CliAt (w : World) (lo c p : Nat) (q : AP) (A : AR) (hv : Value) (H : List Nat) : Prop where
  hc : At w c [ptr p, hv] 67
  ar : ArP w lo p q A
  ho : OwnN w lo hv H
  dis : ∀ b, hv.ownBlock = some b → ¬ q.fp b
  snd : Sound A (fun i => H.count i)
  cap : A.cap ≤ 30
  vr : ValR A
  loc : lo ≤ c
  lof : ∀ b, q.fp b → lo ≤ b
  los : lo ≤ w.heap.size

theorem CliAt.ext {w w' : World} {lo c p : Nat} {q : AP} {A : AR} {hv : Value} {H : List Nat} (h : CliAt w lo c p q A hv H) (f : Ext w w') : CliAt w' lo c p q A hv H :=
  ⟨h.hc.ext f, h.ar.ext f, h.ho.ext f, h.dis, h.snd, h.cap, h.vr, h.loc, h.lof, Nat.le_trans h.los f.size⟩

theorem CliAt.mem {w : World} {lo c p : Nat} {q : AP} {A : AR} {hv : Value} {H : List Nat} (h : CliAt w lo c p q A hv H) {i : Nat} (hi : i ∈ H) : i = 0 ∨ A.used i = true := by
  rcases Nat.eq_zero_or_pos i with h0 | hp
  · exact Or.inl h0
  · right
    cases e : A.used i with
    | true => rfl
    | false =>
      have := h.snd.hz i hp e
      have h2 := List.count_pos_iff.2 hi
      omega

theorem CliAt.mem_le {w : World} {lo c p : Nat} {q : AP} {A : AR} {hv : Value} {H : List Nat} (h : CliAt w lo c p q A hv H) {i : Nat} (hi : i ∈ H) : i ≤ 30 := by
  have := h.cap
  rcases h.mem hi with h0 | hu
  · omega
  · have := used_le h.ar.wf hu; omega

/-- The node with the size of the whole: so many slots hold no larger one. -/
def cntLe (A : AR) (s : Int) : Nat := sumTo (fun k => if A.used k = true ∧ (A.node k).size ≤ s then 1 else 0) (A.cap + 1)

def pickH (H : List Nat) (i : Nat) : Nat := if i % 4 = 0 ∨ H.length = 0 then 0 else H.getD (i % H.length) 0

theorem pickH_mem (H : List Nat) (i : Nat) : pickH H i = 0 ∨ pickH H i ∈ H := by
  unfold pickH
  split
  · exact Or.inl rfl
  · rename_i h
    right
    have hl : 0 < H.length := by omega
    have := Nat.mod_lt i hl
    rw [List.getD_eq_getElem?_getD, List.getElem?_eq_getElem this]
    exact List.getElem_mem this

theorem c_pick (w : World) (lo c p : Nat) (q : AP) (A : AR) (hv : Value) (H : List Nat) (i : Nat) (h : CliAt w lo c p q A hv H) (hl : H.length ≤ 1000) (hi : i < 4294967296) :
    Calls Try.prog 85 [ptr c, .int .u32 (i : Int)].toArray w (Ret fun r w' => r = .int .u32 (pickH H i : Int) ∧ Ext w w') := by
  have hc := h.hc
  obtain ⟨sv, cv, rfl, hcv, hr⟩ := h.ho.slice
  refine calls_go Try.func85 rfl Try.ntmps85 (Nat.le_of_ble_eq_true rfl) ?_
  by_cases h4 : i % 4 = 0
  · have e : pickH H i = 0 := by unfold pickH; rw [if_pos (Or.inl h4)]
    rw [e]
    repeat (first | refine sp ?_ | (refine is_load ?_; refine ld ?_) | (refine is_store ?_; refine sr ?_) | (refine is_alloc ?_; refine al ?_) | (refine is_box ?_; refine bx ?_) | (refine isl_load ?_; refine ldl ?_) | (refine isl_store ?_; refine srl ?_) | (refine isl_alloc ?_; refine all' ?_) | (refine isl_box ?_; refine bxl ?_) | refine dr Try.follows ?_)
    exact go_ret1 rfl rfl ⟨_, rfl, rfl, by (repeat (first | exact Fr.refl _ _ | assumption | apply Fr.drewN | apply Fr.alloc | (apply Fr.transF; assumption) | (refine Fr.setRow ?_ _ (by first | exact Or.inr (by (first | omega | (simp; done) | (simp; omega))) | (exact Or.inl (by first | assumption | (simp; done)))))))⟩
  by_cases h0 : H.length = 0
  · have e : pickH H i = 0 := by unfold pickH; rw [if_pos (Or.inr h0)]
    rw [e]
    repeat (first | refine sp ?_ | (refine is_load ?_; refine ld ?_) | (refine is_store ?_; refine sr ?_) | (refine is_alloc ?_; refine al ?_) | (refine is_box ?_; refine bx ?_) | (refine isl_load ?_; refine ldl ?_) | (refine isl_store ?_; refine srl ?_) | (refine isl_alloc ?_; refine all' ?_) | (refine isl_box ?_; refine bxl ?_) | refine dr Try.follows ?_)
    exact go_ret1 rfl rfl ⟨_, rfl, rfl, by (repeat (first | exact Fr.refl _ _ | assumption | apply Fr.drewN | apply Fr.alloc | (apply Fr.transF; assumption) | (refine Fr.setRow ?_ _ (by first | exact Or.inr (by (first | omega | (simp; done) | (simp; omega))) | (exact Or.inl (by first | assumption | (simp; done)))))))⟩
  have hlt : i % H.length < H.length := Nat.mod_lt _ (by omega)
  have e : pickH H i = H[i % H.length] := by
    unfold pickH; rw [if_neg (by omega), List.getD_eq_getElem?_getD, List.getElem?_eq_getElem hlt]; rfl
  rw [e]
  obtain ⟨b, o, rfl, hcell⟩ := hr (i % H.length) (.int .u32 ((H[i % H.length] : Nat) : Int)) (by simp [hlt])
  repeat (first | refine sp ?_ | (refine is_load ?_; refine ld ?_) | (refine is_store ?_; refine sr ?_) | (refine is_alloc ?_; refine al ?_) | (refine is_box ?_; refine bx ?_) | (refine isl_load ?_; refine ldl ?_) | (refine isl_store ?_; refine srl ?_) | (refine isl_alloc ?_; refine all' ?_) | (refine isl_box ?_; refine bxl ?_) | refine dr Try.follows ?_)
  refine go_as 27 (u' := .int .i64 ((i % H.length : Nat) : Int)) rfl (by simp) ?_
  repeat (first | refine sp ?_ | (refine is_load ?_; refine ld ?_) | (refine is_store ?_; refine sr ?_) | (refine is_alloc ?_; refine al ?_) | (refine is_box ?_; refine bx ?_) | (refine isl_load ?_; refine ldl ?_) | (refine isl_store ?_; refine srl ?_) | (refine isl_alloc ?_; refine all' ?_) | (refine isl_box ?_; refine bxl ?_) | refine dr Try.follows ?_)
  exact go_ret1 rfl rfl ⟨_, rfl, rfl, by (repeat (first | exact Fr.refl _ _ | assumption | apply Fr.drewN | apply Fr.alloc | (apply Fr.transF; assumption) | (refine Fr.setRow ?_ _ (by first | exact Or.inr (by (first | omega | (simp; done) | (simp; omega))) | (exact Or.inl (by first | assumption | (simp; done)))))))⟩

/-! ### Sizes -/

theorem sumTo_lt {f g : Nat → Nat} {k : Nat} : ∀ {n : Nat}, (∀ i, i < n → f i ≤ g i) → k < n → f k + 1 ≤ g k → sumTo f n + 1 ≤ sumTo g n
  | 0, _, hk, _ => by omega
  | n + 1, h, hk, h1 => by
    have hle : ∀ m, m ≤ n → sumTo f m ≤ sumTo g m := by
      intro m
      induction m with
      | zero => intro _; exact Nat.le_refl _
      | succ m ih => intro hm; have := ih (by omega); have := h m (by omega); simp only [sumTo]; omega
    simp only [sumTo]
    by_cases e : k = n
    · subst e
      have := hle k (Nat.le_refl _); omega
    · have := sumTo_lt (n := n) (fun i hi => h i (by omega)) (show k < n by omega) h1
      have := h n (by omega); omega

/-- The size below a child. -/
def szC (A : AR) (c : Nat) : Int := if c = 0 then 0 else (A.node c).size

theorem mkN_szC {A : AR} (ok : NdOk A) {k v : Int} {l r : Nat} (hl : l = 0 ∨ A.used l = true) (hr : r = 0 ∨ A.used r = true) : (mkN A k v l r).size = 1 + szC A l + szC A r := by
  have hb : ∀ c, c = 0 ∨ A.used c = true → c ≠ 0 → 1 ≤ (A.node c).size ∧ (A.node c).size ≤ 2147483647 := by
    intro c hc h0
    rcases hc with h | h
    · exact absurd h h0
    · exact ok.sz c h
  unfold mkN szC addC
  by_cases e1 : l = 0
  · by_cases e2 : r = 0
    · simp [e1, e2]
    · have := hb r hr e2
      simp only [e1, e2, if_true, if_false]
      rw [w64_in (by omega)]; omega
  · have h1 := hb l hl e1
    by_cases e2 : r = 0
    · simp only [e1, e2, if_true, if_false]
      rw [w64_in (by omega)]; omega
    · have := hb r hr e2
      simp only [e1, e2, if_false]
      rw [w64_in (z := 1 + (A.node l).size) (by omega), w64_in (by omega)]

theorem cntLe_lt {A : AR} (hw : Wf A) {k : Nat} {s s' : Int} (hk : A.used k = true) (h1 : s' < (A.node k).size) (h2 : (A.node k).size ≤ s) : cntLe A s' + 1 ≤ cntLe A s := by
  refine sumTo_lt (k := k) (fun i hi => ?_) (by have := used_le hw hk; omega) ?_
  · by_cases hu : A.used i = true
    · by_cases a : (A.node i).size ≤ s'
      · rw [if_pos ⟨hu, a⟩, if_pos ⟨hu, by omega⟩]; exact Nat.le_refl _
      · rw [if_neg (fun x => a x.2)]; exact Nat.zero_le _
    · rw [if_neg (fun x => hu x.1)]; exact Nat.zero_le _
  · rw [if_neg (fun x => by have := x.2; omega), if_pos ⟨hk, h2⟩]; omega

theorem size_pow {A : AR} {h : Nat → Nat} (s : Sound A h) : ∀ (n : Nat) (k : Nat), A.used k = true → (A.node k).size ≤ (n : Int) → (A.node k).size ≤ ((2 ^ cntLe A (A.node k).size - 1 : Nat) : Int)
  | 0, k, hk, hn => by have := s.ok.sz k hk; omega
  | n + 1, k, hk, hn => by
    obtain ⟨kl, kr⟩ := s.kid k hk
    have e : (A.node k).size = 1 + szC A (A.node k).left + szC A (A.node k).right := by
      have := mkN_szC (k := (A.node k).key) (v := (A.node k).val) s.ok kl kr
      rw [← s.agg k hk] at this; exact this
    have hc1 : 1 ≤ cntLe A (A.node k).size := by
      have := cntLe_lt s.wf (s' := (A.node k).size - 1) (s := (A.node k).size) hk (by omega) (by omega)
      omega
    have hb : ∀ c, c = 0 ∨ A.used c = true → 0 ≤ szC A c ∧ (szC A c < (A.node k).size → szC A c ≤ ((2 ^ (cntLe A (A.node k).size - 1) - 1 : Nat) : Int)) := by
      intro c hc
      unfold szC
      by_cases h0 : c = 0
      · rw [if_pos h0]; exact ⟨Int.le_refl _, fun _ => Int.natCast_nonneg _⟩
      · rw [if_neg h0]
        have hu : A.used c = true := by rcases hc with h | h; · exact absurd h h0
                                        · exact h
        have := s.ok.sz c hu
        refine ⟨by omega, fun hlt => ?_⟩
        have ih := size_pow s n c hu (by omega)
        have hcl := cntLe_lt s.wf (s' := (A.node c).size) (s := (A.node k).size) hk hlt (by omega)
        have : 2 ^ cntLe A (A.node c).size ≤ 2 ^ (cntLe A (A.node k).size - 1) := Nat.pow_le_pow_right (by decide) (by omega)
        omega
    obtain ⟨a1, a2⟩ := hb _ kl
    obtain ⟨b1, b2⟩ := hb _ kr
    have a3 := a2 (by omega)
    have b3 := b2 (by omega)
    have hp : 2 ^ cntLe A (A.node k).size = 2 * 2 ^ (cntLe A (A.node k).size - 1) := by
      conv => lhs; rw [show cntLe A (A.node k).size = (cntLe A (A.node k).size - 1) + 1 by omega]
      rw [Nat.pow_succ]; omega
    have : 1 ≤ 2 ^ (cntLe A (A.node k).size - 1) := Nat.one_le_two_pow
    omega

theorem cntLe_cap {A : AR} (hw : Wf A) (s : Int) : cntLe A s ≤ A.cap := by
  have : ∀ n, n ≤ A.cap + 1 → sumTo (fun k => if A.used k = true ∧ (A.node k).size ≤ s then 1 else 0) n ≤ n - 1 := by
    intro n
    induction n with
    | zero => intro _; exact Nat.le_refl _
    | succ n ih =>
      intro hn
      have := ih (by omega)
      simp only [sumTo]
      by_cases e : A.used n = true ∧ (A.node n).size ≤ s
      · have := (hw.uf n e.1).1
        rw [if_pos e]; omega
      · rw [if_neg e]; omega
  have := this (A.cap + 1) (Nat.le_refl _)
  unfold cntLe; omega

theorem szC_le {A : AR} {h : Nat → Nat} (s : Sound A h) (hc : A.cap ≤ 30) {c : Nat} (h : c = 0 ∨ A.used c = true) : szC A c ≤ 1073741823 := by
  unfold szC
  by_cases h0 : c = 0
  · rw [if_pos h0]; omega
  · rw [if_neg h0]
    have hu : A.used c = true := by rcases h with h | h; · exact absurd h h0
                                    · exact h
    have h1 := s.ok.sz c hu
    have h2 := size_pow s 2147483647 c hu (by omega)
    have h3 := cntLe_cap s.wf (A.node c).size
    have : 2 ^ cntLe A (A.node c).size ≤ 2 ^ 30 := Nat.pow_le_pow_right (by decide) (by omega)
    omega

theorem mk_ok {A : AR} {h : Nat → Nat} (s : Sound A h) (hc : A.cap ≤ 30) {k v : Int} {l r : Nat} (hl : l = 0 ∨ A.used l = true) (hr : r = 0 ∨ A.used r = true) : A.makeE k v l r = 0 ∨ (A.makeE k v l r = 2 ∧ A.make k v l r = A) := by
  have e : A.makeE k v l r = if A.free = 0 then 2 else 0 := by
    unfold AR.makeE
    rw [if_neg]
    rintro (⟨a, b⟩ | ⟨a, b⟩ | hx)
    · rcases hl with h | h
      · exact a h
      · rw [h] at b; cases b
    · rcases hr with h | h
      · exact a h
      · rw [h] at b; cases b
    · rw [mkN_szC s.ok hl hr] at hx
      have := szC_le s hc hl
      have := szC_le s hc hr
      omega
  by_cases hf : A.free = 0
  · rw [if_pos hf] at e
    exact Or.inr ⟨e, by unfold AR.make; rw [e]; rfl⟩
  · rw [if_neg hf] at e; exact Or.inl e

end Go.Proofs.Ytapocbahkeoeoaa
