/-
  Trees below arbitrary indexes of a sound arena; ascending lists of subtrees. No program in sight.
-/
import Derived.Test.YtfaeboamjfdjlaaSe
import Derived.Test.YtfaeboamjfdjlaaAr
set_option linter.unusedVariables false
namespace Go.Proofs.Ytfaeboamjfdjlaa
open Go.Vc

theorem Sound.treeOf {A : AR} {h : Nat → Nat} (s : Sound A h) : ∀ (m : Nat) (i : Nat), (i = 0 ∨ A.used i = true) → szOf A i ≤ (m : Int) → ∃ t, InA A t ∧ t.root = i ∧ (t.sz : Int) = szOf A i := by
  intro m
  induction m with
  | zero =>
    intro i hi hm
    by_cases h0 : i = 0
    · subst h0; exact ⟨.nil, trivial, rfl, rfl⟩
    · have hu := hi.resolve_left h0
      have := (s.ok.sz i hu).1
      unfold szOf at hm
      rw [if_neg h0] at hm
      omega
  | succ m ih =>
    intro i hi hm
    by_cases h0 : i = 0
    · subst h0; exact ⟨.nil, trivial, rfl, rfl⟩
    · have hu := hi.resolve_left h0
      obtain ⟨kl, kr⟩ := s.kid i hu
      have bl := szOf_bd s _ kl
      have br := szOf_bd s _ kr
      have bl' : 0 ≤ szOf A (A.node i).left ∧ szOf A (A.node i).left ≤ 2147483647 := bl
      have br' : 0 ≤ szOf A (A.node i).right ∧ szOf A (A.node i).right ≤ 2147483647 := br
      have ha := s.agg i hu
      have hz : szOf A i = szOf A (A.node i).left + 1 + szOf A (A.node i).right := by
        have e : szOf A i = (A.node i).size := by unfold szOf; rw [if_neg h0]
        rw [e, ha, (mkN_lr A _ _ _ _).2.2.1, (mkN_lr A _ _ _ _).2.2.2]
        exact mkN_szOf bl' br'
      obtain ⟨tl, il, rl, sl⟩ := ih _ kl (by omega)
      obtain ⟨tr, ir, rr, sr⟩ := ih _ kr (by omega)
      refine ⟨.nd i tl (A.node i).key (A.node i).val tr, ⟨by omega, hu, by rw [rl, rr]; exact ha, il, ir⟩, rfl, ?_⟩
      show ((tl.sz + 1 + tr.sz : Nat) : Int) = _
      omega
theorem Sound.tree {A : AR} {h : Nat → Nat} (s : Sound A h) (i : Nat) (hi : i = 0 ∨ A.used i = true) : ∃ t, InA A t ∧ t.root = i ∧ (t.sz : Int) = szOf A i ∧ t.sz ≤ 2147483647 := by
  have hb : 0 ≤ szOf A i ∧ szOf A i ≤ 2147483647 := szOf_bd s i hi
  obtain ⟨t, h1, h2, h3⟩ := s.treeOf 2147483647 i hi (by omega)
  exact ⟨t, h1, h2, h3, by omega⟩

theorem InA.ky {A : AR} {T : Tr} (h : InA A T) (hn : T ≠ .nil) : (A.nodeOf T.root).key = T.ky := (h.keyOf hn).1
theorem srt_len {A : AR} (hw : Wf A) {l : List Tr} (hl : ∀ T ∈ l, InA A T ∧ T ≠ .nil) (hs : SrtK l) : l.length ≤ A.cap + 1 := by
  have h1 : (l.map Tr.root).Nodup := by
    rw [List.nodup_iff_pairwise_ne, List.pairwise_map]
    refine List.Pairwise.imp_of_mem ?_ hs
    intro a b ha hb hlt e
    have e1 := (hl a ha).1.ky (hl a ha).2
    have e2 := (hl b hb).1.ky (hl b hb).2
    rw [e] at e1
    omega
  have := nodup_len (A.cap + 1) (l.map Tr.root) h1 (fun x hx => by
    obtain ⟨T, hT, rfl⟩ := List.mem_map.1 hx
    have hr : T.root ≠ 0 := fun e => (hl T hT).2 ((hl T hT).1.root0 e)
    have := used_le hw ((hl T hT).1.used hr)
    omega)
  simpa using this
theorem InA.hM {A : AR} (hw : Wf A) {t : Tr} (h : InA A t) : ∀ a b, t.subs = a ++ b → SrtK a → a.length ≤ A.cap + 1 := fun a b e hs =>
  srt_len hw (fun T hT => h.subs T (by rw [e]; exact List.mem_append_left _ hT)) hs

theorem InA.ht_aux {A : AR} (hw : Wf A) : ∀ (t : Tr), InA A t → t.sz ≤ 2147483647 → ∀ S : List Nat, S.Nodup → (∀ x ∈ S, 1 ≤ x ∧ x ≤ A.cap ∧ (t.sz : Int) < szOf A x) → t.ht + S.length ≤ A.cap + 1
  | .nil, _, _, S, hd, hS => by
    have := nodup_len (A.cap + 1) S hd (fun x hx => by have := hS x hx; omega)
    show 0 + S.length ≤ _
    omega
  | .nd i l k v r, h, hz, S, hd, hS => by
    have e : (Tr.nd i l k v r).sz = l.sz + 1 + r.sz := rfl
    have hi := h.size hz
    have hu := used_le hw h.2.1
    have hroot : (Tr.nd i l k v r).root = i := rfl
    rw [hroot] at hi
    have hd' : (i :: S).Nodup := List.nodup_cons.2 ⟨fun hm => by have := (hS i hm).2.2; omega, hd⟩
    have hl := InA.ht_aux hw l h.2.2.2.1 (by omega) (i :: S) hd' (fun x hx => by
      rcases List.mem_cons.1 hx with rfl | hx
      · exact ⟨hu.1, hu.2, by omega⟩
      · have := hS x hx; exact ⟨this.1, this.2.1, by omega⟩)
    have hr := InA.ht_aux hw r h.2.2.2.2 (by omega) (i :: S) hd' (fun x hx => by
      rcases List.mem_cons.1 hx with rfl | hx
      · exact ⟨hu.1, hu.2, by omega⟩
      · have := hS x hx; exact ⟨this.1, this.2.1, by omega⟩)
    simp only [List.length_cons] at hl hr
    show 1 + max l.ht r.ht + S.length ≤ _
    omega
theorem InA.ht_le {A : AR} (hw : Wf A) {t : Tr} (h : InA A t) (hz : t.sz ≤ 2147483647) : t.ht ≤ A.cap + 1 := by
  have := InA.ht_aux hw t h hz [] List.nodup_nil (by intro x hx; cases hx)
  simpa using this

/-- The keys ascend, and exceed the last one. -/
def OkF (last : Int) (any : Bool) (l : List Tr) : Prop := SrtK l ∧ (any = true → ∀ T ∈ l, last < T.ky)
theorem okF_nil (last : Int) (any : Bool) : OkF last any [] := ⟨List.Pairwise.nil, fun _ T h => by cases h⟩
theorem okF_0 {last : Int} {l : List Tr} : OkF last false l ↔ SrtK l := ⟨fun h => h.1, fun h => ⟨h, fun e => nomatch e⟩⟩
theorem okF_pre {last : Int} {any : Bool} {a b : List Tr} (h : OkF last any (a ++ b)) : OkF last any a :=
  ⟨(List.pairwise_append.1 h.1).1, fun e T hT => h.2 e T (List.mem_append_left _ hT)⟩
theorem okF_cons {last : Int} {any : Bool} {T : Tr} {X : List Tr} : OkF last any (T :: X) ↔ (any = true → last < T.ky) ∧ OkF T.ky true X := by
  constructor
  · rintro ⟨h1, h2⟩
    obtain ⟨h3, h4⟩ := List.pairwise_cons.1 h1
    exact ⟨fun e => h2 e T (by simp), h4, fun _ U hU => h3 U hU⟩
  · rintro ⟨h1, h2, h3⟩
    refine ⟨List.pairwise_cons.2 ⟨fun U hU => h3 rfl U hU, h2⟩, fun e U hU => ?_⟩
    rcases List.mem_cons.1 hU with rfl | hU
    · exact h1 e
    · have := h1 e; have := h3 rfl U hU; omega

def Tr.balB : Tr → Bool
  | .nil => true
  | .nd _ l _ _ r => balanced (l.sz : Int) (r.sz : Int) && (l.balB && r.balB)
theorem Tr.balB_iff : ∀ (t : Tr), t.balB = true ↔ ∀ T ∈ t.subs, T.okB = true
  | .nil => ⟨fun _ T h => (by cases h), fun _ => rfl⟩
  | .nd i l k v r => by
    have e : (Tr.nd i l k v r).balB = (balanced (l.sz : Int) (r.sz : Int) && (l.balB && r.balB)) := rfl
    rw [e, Bool.and_eq_true, Bool.and_eq_true, Tr.balB_iff l, Tr.balB_iff r]
    constructor
    · rintro ⟨h1, h2, h3⟩ T hT
      rcases List.mem_append.1 hT with hT | hT
      · exact h2 T hT
      · rcases List.mem_cons.1 hT with rfl | hT
        · exact h1
        · exact h3 T hT
    · intro h
      exact ⟨h _ (List.mem_append_right _ (List.mem_cons_self ..)), fun T hT => h T (List.mem_append_left _ hT), fun T hT => h T (List.mem_append_right _ (List.mem_cons_of_mem _ hT))⟩
theorem Tr.balB_not {t : Tr} (h : t.balB = false) : ∃ T ∈ t.subs, T.okB = false := by
  refine Classical.byContradiction fun hn => ?_
  have : t.balB = true := t.balB_iff.2 fun T hT => by
    cases e : T.okB with
    | true => rfl
    | false => exact absurd ⟨T, hT, e⟩ hn
  rw [h] at this; cases this

theorem CkE'.uniq {t : Tr} {E E' : Int} (h : CkE' t E) (h' : CkE' t E') : E = E' := by
  have key : ∀ {a : Prop}, (∀ T ∈ t.subs, T.okB = true) → (∃ T ∈ t.subs, T.okB = false) → a := fun h1 ⟨T, hT, e⟩ => by have := h1 T hT; rw [e] at this; cases this
  rcases h with ⟨a, b, rfl⟩ | ⟨a, rfl⟩ | ⟨a, b, rfl⟩ <;> rcases h' with ⟨a', b', rfl⟩ | ⟨a', rfl⟩ | ⟨a', b', rfl⟩ <;> first | rfl | exact absurd a a' | exact absurd a' a | exact key b b' | exact key b' b

end Go.Proofs.Ytfaeboamjfdjlaa
