/-
  The program's check of a tree: the nodes in order.
-/
import Derived.Test.YtfaeboamjfdjlaaTa
set_option linter.unusedVariables false
namespace Go.Vc

/-- The last element is taken off; an element has 'm' cells. -/
theorem Own.popM {w : World} {lo : Nat} {e : TypeId} {m : Nat} {v : Value} {n : Nat} {xs ys : List Value} (hm : 0 < m) (hy : ys.length = m) (h : Own w lo e m v (n + 1) (xs ++ ys)) :
    ∃ g cap, v = .slice (some ⟨g, 0, none⟩) (n + 1) cap ∧ n + 1 ≤ cap ∧ (∀ j u, ys[j]? = some u → w.cell? ⟨g, 0 + n * m + j, none⟩ = some u) ∧ Own w lo e m (.slice (some ⟨g, 0, none⟩) n cap) n xs := by
  have hl : (xs ++ ys).length = (n + 1) * m := h.1
  rw [List.length_append, hy, Nat.succ_mul] at hl
  have hx : xs.length = n * m := by omega
  rcases h.2 with ⟨_, h0⟩ | ⟨g, cap, cur, hv, hg, hh, hn', hc, hs, ht⟩
  · omega
  · rw [Nat.succ_mul] at ht
    refine ⟨g, cap, hv, hn', fun j u hj => ?_, hx, Or.inr ⟨g, cap, cur, rfl, hg, hh, by omega, hc, hs, ?_⟩⟩
    · have hjm : j < m := by rw [← hy]; exact (List.getElem?_eq_some_iff.1 hj).1
      have e1 : (cur.toList.take (n * m + m))[n * m + j]? = some u := by
        rw [ht, List.getElem?_append_right (by omega), hx, Nat.add_sub_cancel_left]; exact hj
      rw [List.getElem?_take, if_pos (by omega)] at e1
      have hat : At w g cur.toList e := ⟨by simpa using hh⟩
      rw [Nat.zero_add]
      exact hat.cell e1
    · have : cur.toList.take (n * m) = (cur.toList.take (n * m + m)).take (n * m) := by rw [List.take_take, Nat.min_eq_left (by omega)]
      rw [this, ht, List.take_append_of_le_length (by omega), List.take_of_length_le (by omega)]

end Go.Vc
namespace Go.Proofs.Ytfaeboamjfdjlaa
open Go.Vc

/-- The subtrees in the order of their roots. -/
def Tr.subs : Tr → List Tr
  | .nil => []
  | .nd i l k v r => l.subs ++ .nd i l k v r :: r.subs
def Tr.rt : Tr → Tr
  | .nil => .nil
  | .nd _ _ _ _ r => r
def Tr.ky : Tr → Int
  | .nil => 0
  | .nd _ _ k _ _ => k
theorem Tr.subs_ents (t : Tr) : t.subs.map Tr.ky = t.ents.map (·.1) := by
  induction t with
  | nil => rfl
  | nd i l k v r hl hr => simp [subs, ents, hl, hr, ky]
def SrtK (l : List Tr) : Prop := l.Pairwise fun a b => a.ky < b.ky
theorem srtK_iff (t : Tr) : SrtK t.subs ↔ Srt t.ents := by
  have h1 : SrtK t.subs ↔ (t.subs.map Tr.ky).Pairwise (· < ·) := by unfold SrtK; rw [List.pairwise_map]
  have h2 : Srt t.ents ↔ (t.ents.map (·.1)).Pairwise (· < ·) := by unfold Srt; rw [List.pairwise_map]
  rw [h1, h2, Tr.subs_ents]
theorem Tr.subs_len (t : Tr) : t.subs.length = t.sz := by
  have := congrArg List.length t.subs_ents
  rw [List.length_map, List.length_map, t.len] at this
  exact this

theorem InA.subs {A : AR} : ∀ {t : Tr}, InA A t → ∀ T ∈ t.subs, InA A T ∧ T ≠ .nil
  | .nil, _, T, hT => by cases hT
  | .nd i l k v r, h, T, hT => by
    rcases List.mem_append.1 hT with hT | hT
    · exact InA.subs h.2.2.2.1 T hT
    · rcases List.mem_cons.1 hT with rfl | hT
      · exact ⟨h, by intro e; cases e⟩
      · exact InA.subs h.2.2.2.2 T hT

/-- A slice of nodes of the function's own. -/
def OwnD (w : World) (lo : Nat) (v : Value) (l : List Nd) : Prop := Own w lo 41 8 v l.length (l.flatMap Nd.cells)
theorem nd_one' (N : Nd) : ∀ u ∈ N.cells, u.oneCell' = true := by
  intro v hv
  simp only [Nd.cells, List.mem_cons, List.not_mem_nil, or_false] at hv
  rcases hv with rfl | rfl | rfl | rfl | rfl | rfl | rfl | rfl <;> rfl

def ndsOf (A : AR) (l : List Tr) : List Nd := l.map fun T => A.nodeOf T.root

/-- What is left to do. -/
def todo_ (next : Tr) (path : List Tr) : List Tr := next.subs ++ path.reverse.flatMap fun T => T :: T.rt.subs
theorem todo_push {i : Nat} {l r : Tr} {k v : Int} {path : List Tr} : todo_ (.nd i l k v r) path = todo_ l (path ++ [.nd i l k v r]) := by
  simp [todo_, Tr.subs, Tr.rt]
theorem todo_pop {T : Tr} {path : List Tr} : todo_ .nil (path ++ [T]) = T :: todo_ T.rt path := by
  simp [todo_, Tr.subs]
def msr (next : Tr) (path : List Tr) : Nat := 2 * next.sz + (path.map fun T => 1 + 2 * T.rt.sz).sum

theorem InA.keyOf {A : AR} {T : Tr} (h : InA A T) (hn : T ≠ .nil) : (A.nodeOf T.root).key = T.ky ∧ (A.nodeOf T.root).right = T.rt.root := by
  cases T with
  | nil => exact absurd rfl hn
  | nd i l k v r =>
    have : A.nodeOf i = mkN A k v l.root r.root := h.nodeOf
    show (A.nodeOf i).key = k ∧ (A.nodeOf i).right = r.root
    rw [this]
    exact ⟨(mkN_lr A k v l.root r.root).1, (mkN_lr A k v l.root r.root).2.2.2⟩

set_option maxHeartbeats 8000000 in
theorem c_inOrder (w : World) (lo p : Nat) (q : AP) (A : AR) (t : Tr) (ha : ArP w lo p q A) (hi : InA A t) (hM : ∀ a b, t.subs = a ++ b → SrtK a → a.length ≤ 1000000) (hH : t.ht ≤ 1000000) :
    Calls Try.prog 40 [ptr p, .int .u32 (t.root : Int)].toArray w (Ret fun v w' => (∃ B n, ArP w' lo p q B ∧ Rds A B n) ∧ Fr (fun b => b = p) w w' ∧
      ((SrtK t.subs ∧ ∃ sv cv, v = .tuple #[.slice sv t.subs.length cv, .bool true] ∧ OwnD w' w.heap.size (.slice sv t.subs.length cv) (ndsOf A t.subs)) ∨ (¬ SrtK t.subs ∧ v = .tuple #[.slice none 0 0, .bool false]))) := by
  have hpl := ha.lt p ha.fpp
  refine calls_go Try.func40 rfl Try.ntmps40 (Nat.le_of_ble_eq_true rfl) ?_
  repeat (first | refine sp ?_ | (refine is_load ?_; refine ld ?_) | (refine is_store ?_; refine sr ?_) | (refine is_alloc ?_; refine al ?_) | (refine is_box ?_; refine bx ?_) | (refine isl_load ?_; refine ldl ?_) | (refine isl_store ?_; refine srl ?_) | (refine isl_alloc ?_; refine all' ?_) | (refine isl_box ?_; refine bxl ?_))
  refine go_loop (G := Tr × List Tr × Value × List Tr × Value × AR × Nat) [8, 7, 6] (fun ⟨nx, _, pv, _, ov, _, _⟩ => [.int .u32 (nx.root : Int), pv, ov]) [(0, ptr p)]
    (fun ⟨nx, path, pv, out, ov, B, n⟩ w' => out ++ todo_ nx path = t.subs ∧ SrtK out ∧ InA A nx ∧ (∀ T ∈ path, InA A T ∧ T ≠ .nil) ∧ (∀ j T, path[j]? = some T → j + T.ht ≤ t.ht) ∧ path.length + nx.ht ≤ t.ht ∧ OwnD w' w.heap.size pv (ndsOf A path) ∧ OwnD w' w.heap.size ov (ndsOf A out) ∧ (∀ b, pv.ownBlock = some b → ov.ownBlock ≠ some b) ∧ ArP w' lo p q B ∧ Rds A B n ∧ Fr (fun b => b = p) w w')
    (fun g => msr g.1 g.2.1) (t, [], .slice none 0 0, [], .slice none 0 0, A, 0) rfl ⟨rfl, trivial⟩
    ⟨by simp [todo_], List.Pairwise.nil, hi, (by intro T h; cases h), (by intro j T h; simp at h), by simp, Own.nil _ _ _ _, Own.nil _ _ _ _, (by intro b h; cases h), ha, Rds.refl _ _, Fr.refl _ _⟩ ?_
  rintro ⟨nx, path, pv, out, ov, B, n⟩ w1 ⟨hsum, hso, hin, hpa, hph, hpn, hop, hoo, hdis, ha1, hB, hF1⟩
  have hl1 := hF1.size
  have hol : out.length ≤ 1000000 := hM out _ hsum.symm hso
  have hpl2 : path.length ≤ 1000000 := by omega
  have hopl : (ndsOf A path).length = path.length := List.length_map _
  have hool : (ndsOf A out).length = out.length := List.length_map _
  unfold OwnD at hop hoo
  obtain ⟨sp_, cp, hpv, _, _⟩ := hop.slice
  obtain ⟨so, co, hov, _, _⟩ := hoo.slice
  rw [hopl] at hpv hop
  rw [hool] at hov hoo
  cases nx with
  | nd i l k v r =>
    have h0 : i ≠ 0 := by have := hin.1; omega
    refine go_as 8 (u' := .int .u32 (i : Int)) rfl rfl ?_
    have hiB := hB.inA hin
    obtain ⟨hri, hrl, hrr⟩ := hiB.roots ha1.wf
    have hkn := hin.nodeOf
    have hlr := mkN_lr A k v l.root r.root
    rw [← hkn] at hlr
    repeat (first | refine sp ?_ | (refine is_load ?_; refine ld ?_) | (refine is_store ?_; refine sr ?_) | (refine is_alloc ?_; refine al ?_) | (refine is_box ?_; refine bx ?_) | (refine isl_load ?_; refine ldl ?_) | (refine isl_store ?_; refine srl ?_) | (refine isl_alloc ?_; refine all' ?_) | (refine isl_box ?_; refine bxl ?_))
    refine go_call rfl rfl (p_Node _ lo p q B i ha1 hri) ?_
    rintro _ w2 ⟨rfl, ha2, hf2⟩
    rw [show B.used i = true from hiB.2.1, hB.nodeOf]
    have hl2 := hf2.size
    have hop2 := Own.fr hop hf2 (fun b hb e => by omega)
    have hoo2 := Own.fr hoo hf2 (fun b hb e => by omega)
    obtain ⟨N, hN⟩ : ∃ N, A.nodeOf i = N := ⟨_, rfl⟩
    rw [hN] at hlr
    rw [hN]
    unfold Nd.cells
    repeat (first | refine sp ?_ | (refine is_load ?_; refine ld ?_) | (refine is_store ?_; refine sr ?_) | (refine is_alloc ?_; refine al ?_) | (refine is_box ?_; refine bx ?_) | (refine isl_load ?_; refine ldl ?_) | (refine isl_store ?_; refine srl ?_) | (refine isl_alloc ?_; refine all' ?_) | (refine isl_box ?_; refine bxl ?_))
    refine go_name (F := fun w3 => At w3 w2.heap.size [.int .i64 N.key, .int .i64 N.val, .int .u32 (N.left : Int), .int .u32 (N.right : Int), .int .i64 N.size, .int .i64 N.sum, .int .i64 N.mn, .int .i64 N.mx] 41 ∧ Ext w2 w3 ∧ w2.heap.size + 1 ≤ w3.heap.size) ⟨by (repeat (first | assumption | (refine At.new' (by (first | omega | (simp; done) | (simp; omega))) _ _) | apply At.alloc | apply At.drewN | apply At.setRow | (apply At.setRow_neF; first | assumption | (apply Ne.symm; assumption) | omega) | (apply At.extF; assumption))), by (repeat (first | exact Fr.refl _ _ | assumption | apply Fr.drewN | apply Fr.alloc | (apply Fr.transF; assumption) | (refine Fr.setRow ?_ _ (by first | exact Or.inr (by (first | omega | (simp; done) | (simp; omega))) | (exact Or.inl (by first | assumption | (simp; done))))))), by simp⟩ ?_
    rintro w3 ⟨hat3, hx3, hl3⟩
    have hop3 := Own.ext hop2 hx3
    have hoo3 := Own.ext hoo2 hx3
    have hneN : pv.ownBlock ≠ some w2.heap.size := fun e => by
      have := (Own.block_lt hop2 e).1
      omega
    have hS : ∀ b, pv.ownBlock = some b → w.heap.size ≤ b := fun b e => (World.ownsRow.lt hop3 _ e).1
    refine go_pushG (l := N.cells) (by decide) rfl rfl rfl rfl hop3 rfl (nd_one' N) (by omega) (by simp [maxLen]; omega) (by omega) (by omega) ?_
    intro v4 w4 ho4 hg4 hb4
    have hoo4 := Own.grown hoo3 hg4 (fun b e e2 => hdis b e2 e)
    have hat4 := hat3.fr (Fr.of_grown hg4) hneN
    have hF4 : Fr (fun b => b = p) w w4 := ((hF1.trans hf2).trans (Fr.of_ext hx3)).trans' (Fr.of_grown hg4) fun b hb e => by have := hS b e; omega
    have ha4 : ArP w4 lo p q (B.read i) := (ha2.ext hx3).fr (Fr.of_grown hg4) fun b hb e => by have := hS b e; have := ha.lt b hb; omega
    have hdis4 : ∀ b, v4.ownBlock = some b → ov.ownBlock ≠ some b := fun b hb e => by
      rcases hb4 b hb with h | h
      · exact hdis b h e
      · have := (Own.block_lt hoo3 e).1; omega
    have enp : ndsOf A (path ++ [.nd i l k v r]) = ndsOf A path ++ [N] := by rw [← hN]; simp [ndsOf, Tr.root]
    repeat (first | refine sp ?_ | (refine is_load ?_; refine ld ?_) | (refine is_store ?_; refine sr ?_) | (refine is_alloc ?_; refine al ?_) | (refine is_box ?_; refine bx ?_) | (refine isl_load ?_; refine ldl ?_) | (refine isl_store ?_; refine srl ?_) | (refine isl_alloc ?_; refine all' ?_) | (refine isl_box ?_; refine bxl ?_))
    refine go_as 8 (u' := .int .u32 (l.root : Int)) rfl (by rw [hlr.2.2.1]) ?_
    refine go_stop (G := Tr × List Tr × Value × List Tr × Value × AR × Nat) (l, path ++ [.nd i l k v r], v4, out, ov, B.read i, n + 1) rfl ⟨rfl, trivial⟩ ⟨by rw [← todo_push]; exact hsum, hso, hin.2.2.2.1, fun T hT => ?_, fun j T hj => ?_, ?_, ?_, ?_, hdis4, ha4, hB.trans (Rds.read B i), hF4⟩ (by show msr l (path ++ [.nd i l k v r]) < msr (.nd i l k v r) path; simp [msr, Tr.sz, Tr.rt]; omega)
    · rcases List.mem_append.1 hT with h | h
      · exact hpa T h
      · simp at h; subst h; exact ⟨hin, by intro h; cases h⟩
    · by_cases hj2 : j < path.length
      · rw [List.getElem?_append_left hj2] at hj; exact hph j T hj
      · have hj3 := (List.getElem?_eq_some_iff.1 hj).1
        have hje : j = path.length := by simp at hj3; omega
        subst hje
        rw [List.getElem?_append_right (Nat.le_refl _), Nat.sub_self] at hj
        simp at hj; subst hj; exact hpn
    · have : (Tr.nd i l k v r).ht = 1 + max l.ht r.ht := rfl
      simp only [List.length_append, List.length_cons, List.length_nil]; omega
    · unfold OwnD
      rw [enp, List.length_append, List.flatMap_append, hopl]
      simpa using ho4
    · unfold OwnD
      rw [hool]; exact hoo4
  | nil =>
    rcases List.eq_nil_or_concat path with rfl | ⟨path', T, rfl⟩
    · have hfin : out = t.subs := by simpa [todo_, Tr.subs] using hsum
      subst hfin
      subst hpv
      subst hov
      repeat (first | refine sp ?_ | (refine is_load ?_; refine ld ?_) | (refine is_store ?_; refine sr ?_) | (refine is_alloc ?_; refine al ?_) | (refine is_box ?_; refine bx ?_) | (refine isl_load ?_; refine ldl ?_) | (refine isl_store ?_; refine srl ?_) | (refine isl_alloc ?_; refine all' ?_) | (refine isl_box ?_; refine bxl ?_))
      exact go_ret2 rfl rfl rfl ⟨_, rfl, ⟨B, n, ha1, hB⟩, hF1, Or.inl ⟨hso, so, co, rfl, by unfold OwnD; rw [hool]; exact hoo⟩⟩
    rw [List.concat_eq_append] at hop hpa hph hpn hsum hopl hpl2 hpv
    obtain ⟨hTi, hTn⟩ := hpa T (by simp)
    obtain ⟨N, hN⟩ : ∃ N, A.nodeOf T.root = N := ⟨_, rfl⟩
    obtain ⟨hk1, hk2⟩ := hTi.keyOf hTn
    rw [hN] at hk1 hk2
    have enp : ndsOf A (path' ++ [T]) = ndsOf A path' ++ [N] := by rw [← hN]; simp [ndsOf]
    rw [enp, List.flatMap_append] at hop
    have hcN : [N].flatMap Nd.cells = N.cells := by simp
    rw [hcN, List.length_append] at hop
    obtain ⟨g, cp2, hpv2, hcp2, hcell, hop2⟩ := Own.popM (m := 8) (by omega) rfl hop
    rw [hpv2] at hpv hop hdis ⊢
    obtain ⟨np, hnp⟩ : ∃ np, path'.length = np := ⟨_, rfl⟩
    rw [hnp] at hcell hop2 hcp2 ⊢
    have hnp2 : np + 1 ≤ 1000000 := by rw [List.length_append, hnp] at hpl2; simpa using hpl2
    have hgl := (World.ownsRow.lt hop2 g rfl)
    have hcell' : ∀ j u, N.cells[j]? = some u → w1.cell? ((⟨g, 0 + np * 8, none⟩ : Addr).add j) = some u := fun j u hj => by rw [addr_add]; exact hcell j u hj
    rw [todo_pop] at hsum
    repeat (first | refine sp ?_ | (refine is_load ?_; refine ld ?_) | (refine is_store ?_; refine sr ?_) | (refine is_alloc ?_; refine al ?_) | (refine is_box ?_; refine bx ?_) | (refine isl_load ?_; refine ldl ?_) | (refine isl_store ?_; refine srl ?_) | (refine isl_alloc ?_; refine all' ?_) | (refine isl_box ?_; refine bxl ?_))
    refine go_as 37 (u' := .int .i64 (np : Int)) rfl (by congr 1; first | omega | (simp; done) | (simp; omega)) ?_
    repeat (first | refine sp ?_ | (refine is_load ?_; refine ld ?_) | (refine is_store ?_; refine sr ?_) | (refine is_alloc ?_; refine al ?_) | (refine is_box ?_; refine bx ?_) | (refine isl_load ?_; refine ldl ?_) | (refine isl_store ?_; refine srl ?_) | (refine isl_alloc ?_; refine all' ?_) | (refine isl_box ?_; refine bxl ?_))
    refine go_load (v := .agg N.cells.toArray) rfl rfl (ld_cells (m := 8) rfl (by decide) hcell') ?_
    unfold Nd.cells
    repeat (first | refine sp ?_ | (refine is_load ?_; refine ld ?_) | (refine is_store ?_; refine sr ?_) | (refine is_alloc ?_; refine al ?_) | (refine is_box ?_; refine bx ?_) | (refine isl_load ?_; refine ldl ?_) | (refine isl_store ?_; refine srl ?_) | (refine isl_alloc ?_; refine all' ?_) | (refine isl_box ?_; refine bxl ?_))
    refine go_as 43 (u' := .int .i64 (np : Int)) rfl (by congr 1; first | omega | (simp; done) | (simp; omega)) ?_
    refine go_p rfl (pr_sl (lo := 0) (hi := np) (by decide) rfl rfl ⟨_, _, rfl, rfl⟩ (by omega) (by omega)) ?_
    rw [cutA0]
    refine go_name (F := fun w3 => At w3 w1.heap.size [.int .i64 N.key, .int .i64 N.val, .int .u32 (N.left : Int), .int .u32 (N.right : Int), .int .i64 N.size, .int .i64 N.sum, .int .i64 N.mn, .int .i64 N.mx] 41 ∧ Ext w1 w3 ∧ w1.heap.size + 1 ≤ w3.heap.size) ⟨by (repeat (first | assumption | (refine At.new' (by (first | omega | (simp; done) | (simp; omega))) _ _) | apply At.alloc | apply At.drewN | apply At.setRow | (apply At.setRow_neF; first | assumption | (apply Ne.symm; assumption) | omega) | (apply At.extF; assumption))), by (repeat (first | exact Fr.refl _ _ | assumption | apply Fr.drewN | apply Fr.alloc | (apply Fr.transF; assumption) | (refine Fr.setRow ?_ _ (by first | exact Or.inr (by (first | omega | (simp; done) | (simp; omega))) | (exact Or.inl (by first | assumption | (simp; done))))))), by simp⟩ ?_
    rintro w3 ⟨hat3, hx3, hl3⟩
    have hop3 := Own.ext hop2 hx3
    have hoo3 := Own.ext hoo hx3
    have ha3 := ha1.ext hx3
    have hF3 := hF1.trans (Fr.of_ext hx3)
    generalize hbn : w1.heap.size = bn at *
    have hRi : InA A T.rt := by
      cases T with
      | nil => exact trivial
      | nd i l k v r => exact hTi.2.2.2.2
    have hTh := hph path'.length T (by simp)
    have hRh : path'.length + T.rt.ht ≤ t.ht := by
      cases T with
      | nil => exact absurd rfl hTn
      | nd i l k v r =>
        have : (Tr.nd i l k v r).ht = 1 + max l.ht r.ht := rfl
        show path'.length + r.ht ≤ t.ht
        omega
    have hx4 : Ext w3 (w3.drewN 1) := (Fr.refl _ _).drewN 1
    have hop4 := Own.ext hop3 hx4
    have hoo4 := Own.ext hoo3 hx4
    have hat4 := hat3.ext hx4
    rcases List.eq_nil_or_concat out with rfl | ⟨out', U, rfl⟩
    · have hso2 : SrtK (([] : List Tr) ++ [T]) := List.pairwise_singleton _ _
      subst hov
      have hool : (ndsOf A ([] : List Tr)).length = ([] : List Tr).length := rfl
      repeat (first | refine sp ?_ | (refine is_load ?_; refine ld ?_) | (refine is_store ?_; refine sr ?_) | (refine is_alloc ?_; refine al ?_) | (refine is_box ?_; refine bx ?_) | (refine isl_load ?_; refine ldl ?_) | (refine isl_store ?_; refine srl ?_) | (refine isl_alloc ?_; refine all' ?_) | (refine isl_box ?_; refine bxl ?_))
      refine go_drawE (Fr (fun _ => False) w3) 0 Try.follows (by kernel_rfl) (by kernel_rfl) (by kernel_rfl) ((Fr.refl _ _).drewN 1) ?_
      repeat (first | refine sp ?_ | (refine is_load ?_; refine ld ?_) | (refine is_store ?_; refine sr ?_) | (refine is_alloc ?_; refine al ?_) | (refine is_box ?_; refine bx ?_) | (refine isl_load ?_; refine ldl ?_) | (refine isl_store ?_; refine srl ?_) | (refine isl_alloc ?_; refine all' ?_) | (refine isl_box ?_; refine bxl ?_))
      generalize w3.drewN 1 = w4 at *
      repeat (first | refine sp ?_ | (refine is_load ?_; refine ld ?_) | (refine is_store ?_; refine sr ?_) | (refine is_alloc ?_; refine al ?_) | (refine is_box ?_; refine bx ?_) | (refine isl_load ?_; refine ldl ?_) | (refine isl_store ?_; refine srl ?_) | (refine isl_alloc ?_; refine all' ?_) | (refine isl_box ?_; refine bxl ?_))
      have hS6 : ∀ b, (Value.slice so ([] : List Tr).length co).ownBlock = some b → w.heap.size ≤ b := fun b e => (World.ownsRow.lt hoo3 _ e).1
      have hneB : (Value.slice so ([] : List Tr).length co).ownBlock ≠ some bn := fun e => by
        have := (Own.block_lt hoo e).1
        omega
      refine go_pushG (l := N.cells) (by decide) rfl rfl rfl rfl hoo4 rfl (nd_one' N) (by omega) (by first | (simp [maxLen]; done) | (simp [maxLen]; omega)) (by omega) (by have := hx4.size; omega) ?_
      intro v6 w6 ho6 hg6 hb6
      have hop6 := Own.grown hop4 hg6 (fun b e e2 => hdis b e e2)
      have hat6 := hat4.fr (Fr.of_grown hg6) hneB
      have hF6 : Fr (fun b => b = p) w w6 := (hF3.trans (Fr.of_ext hx4)).trans' (Fr.of_grown hg6) fun b hb e => by have := hS6 b e; omega
      have ha6 : ArP w6 lo p q B := (ha3.ext hx4).fr (Fr.of_grown hg6) fun b hb e => by have := hS6 b e; have := ha.lt b hb; omega
      have hdis6 : ∀ b, (Value.slice (some ⟨g, 0, none⟩) np cp2).ownBlock = some b → v6.ownBlock ≠ some b := fun b hb e => by
        rcases hb6 b e with h | h
        · exact hdis b hb h
        · have hb : some g = some b := hb
          have := hx4.size
          simp at hb; omega
      repeat (first | refine sp ?_ | (refine is_load ?_; refine ld ?_) | (refine is_store ?_; refine sr ?_) | (refine is_alloc ?_; refine al ?_) | (refine is_box ?_; refine bx ?_) | (refine isl_load ?_; refine ldl ?_) | (refine isl_store ?_; refine srl ?_) | (refine isl_alloc ?_; refine all' ?_) | (refine isl_box ?_; refine bxl ?_))
      refine go_as 8 (u' := .int .u32 (T.rt.root : Int)) rfl (by rw [hk2]) ?_
      refine go_stop (G := Tr × List Tr × Value × List Tr × Value × AR × Nat) (T.rt, path', .slice (some ⟨g, 0, none⟩) np cp2, ([] : List Tr) ++ [T], v6, B, n) rfl ⟨rfl, trivial⟩ ⟨by rw [List.append_assoc]; exact hsum, hso2, hRi, fun U hU => hpa U (by simp [hU]), fun j U hj => hph j U (by rw [List.getElem?_append_left (List.getElem?_eq_some_iff.1 hj).1]; exact hj), hRh, ?_, ?_, hdis6, ha6, hB, hF6⟩ (by show msr _ _ < msr _ _; simp [msr, Tr.sz]; omega)
      · unfold OwnD
        rw [show (ndsOf A path').length = np by rw [← hnp]; exact List.length_map _]; exact hop6
      · unfold OwnD
        rw [show ndsOf A (([] : List Tr) ++ [T]) = ndsOf A (([] : List Tr)) ++ [N] by rw [← hN]; simp [ndsOf], List.length_append, List.flatMap_append, hool, hcN]
        exact ho6
    · rw [List.concat_eq_append] at *
      have hoo5 := hoo3
      rw [show ndsOf A (out' ++ [U]) = ndsOf A out' ++ [A.nodeOf U.root] by simp [ndsOf], List.flatMap_append, show [A.nodeOf U.root].flatMap Nd.cells = (A.nodeOf U.root).cells by simp, List.length_append] at hoo5
      obtain ⟨go, co2, hov2, hco2, hcellU, _⟩ := Own.popM (m := 8) (by omega) rfl hoo5
      obtain ⟨hUi, hUn⟩ := hi.subs U (by rw [← hsum]; simp)
      have hUk := (hUi.keyOf hUn).1
      have e57 : w3.cell? ⟨go, 0 + out'.length * 8 + 0, none⟩ = some (.int .i64 U.ky) := by rw [← hUk]; exact hcellU 0 _ rfl
      subst hov2
      have hool2 : out'.length + 1 ≤ 1000000 := by rw [List.length_append] at hol; exact hol
      repeat (first | refine sp ?_ | (refine is_load ?_; refine ld ?_) | (refine is_store ?_; refine sr ?_) | (refine is_alloc ?_; refine al ?_) | (refine is_box ?_; refine bx ?_) | (refine isl_load ?_; refine ldl ?_) | (refine isl_store ?_; refine srl ?_) | (refine isl_alloc ?_; refine all' ?_) | (refine isl_box ?_; refine bxl ?_))
      refine go_drawE (Fr (fun _ => False) w3) 0 Try.follows (by kernel_rfl) (by kernel_rfl) (by kernel_rfl) ((Fr.refl _ _).drewN 1) ?_
      repeat (first | refine sp ?_ | (refine is_load ?_; refine ld ?_) | (refine is_store ?_; refine sr ?_) | (refine is_alloc ?_; refine al ?_) | (refine is_box ?_; refine bx ?_) | (refine isl_load ?_; refine ldl ?_) | (refine isl_store ?_; refine srl ?_) | (refine isl_alloc ?_; refine all' ?_) | (refine isl_box ?_; refine bxl ?_))
      refine go_as 54 (u' := .int .i64 (out'.length : Int)) rfl (by congr 1; first | omega | (simp; done) | (simp; omega)) ?_
      have hkT : N.key = T.ky := hk1
      by_cases hle : T.ky ≤ U.ky
      · have hns : ¬ SrtK t.subs := by
          rw [← hsum]
          intro h
          have h2 := (List.pairwise_append.1 h).2.2 U (by simp) T (by simp)
          omega
        repeat (first | refine sp ?_ | (refine is_load ?_; refine ld ?_) | (refine is_store ?_; refine sr ?_) | (refine is_alloc ?_; refine al ?_) | (refine is_box ?_; refine bx ?_) | (refine isl_load ?_; refine ldl ?_) | (refine isl_store ?_; refine srl ?_) | (refine isl_alloc ?_; refine all' ?_) | (refine isl_box ?_; refine bxl ?_))
        exact go_ret2 rfl rfl rfl ⟨_, rfl, ⟨B, n, ha3.ext hx4, hB⟩, hF3.trans (Fr.of_ext hx4), Or.inr ⟨hns, rfl⟩⟩
      have hso2 : SrtK (out' ++ [U] ++ [T]) := by
        refine List.pairwise_append.2 ⟨hso, List.pairwise_singleton _ _, fun a ha b hb => ?_⟩
        simp at hb
        subst hb
        rcases List.mem_append.1 ha with ha | ha
        · have := (List.pairwise_append.1 hso).2.2 a ha U (by simp); omega
        · simp at ha; subst ha; omega
      repeat (first | refine sp ?_ | (refine is_load ?_; refine ld ?_) | (refine is_store ?_; refine sr ?_) | (refine is_alloc ?_; refine al ?_) | (refine is_box ?_; refine bx ?_) | (refine isl_load ?_; refine ldl ?_) | (refine isl_store ?_; refine srl ?_) | (refine isl_alloc ?_; refine all' ?_) | (refine isl_box ?_; refine bxl ?_))
      generalize w3.drewN 1 = w4 at *
      repeat (first | refine sp ?_ | (refine is_load ?_; refine ld ?_) | (refine is_store ?_; refine sr ?_) | (refine is_alloc ?_; refine al ?_) | (refine is_box ?_; refine bx ?_) | (refine isl_load ?_; refine ldl ?_) | (refine isl_store ?_; refine srl ?_) | (refine isl_alloc ?_; refine all' ?_) | (refine isl_box ?_; refine bxl ?_))
      have hS6 : ∀ b, (Value.slice (some ⟨go, 0, none⟩) (out'.length + 1) co2).ownBlock = some b → w.heap.size ≤ b := fun b e => (World.ownsRow.lt hoo3 _ e).1
      have hneB : (Value.slice (some ⟨go, 0, none⟩) (out'.length + 1) co2).ownBlock ≠ some bn := fun e => by
        have := (Own.block_lt hoo e).1
        omega
      refine go_pushG (l := N.cells) (by decide) rfl rfl rfl rfl hoo4 rfl (nd_one' N) (by omega) (by first | (simp [maxLen]; done) | (simp [maxLen]; omega)) (by omega) (by have := hx4.size; omega) ?_
      intro v6 w6 ho6 hg6 hb6
      have hop6 := Own.grown hop4 hg6 (fun b e e2 => hdis b e e2)
      have hat6 := hat4.fr (Fr.of_grown hg6) hneB
      have hF6 : Fr (fun b => b = p) w w6 := (hF3.trans (Fr.of_ext hx4)).trans' (Fr.of_grown hg6) fun b hb e => by have := hS6 b e; omega
      have ha6 : ArP w6 lo p q B := (ha3.ext hx4).fr (Fr.of_grown hg6) fun b hb e => by have := hS6 b e; have := ha.lt b hb; omega
      have hdis6 : ∀ b, (Value.slice (some ⟨g, 0, none⟩) np cp2).ownBlock = some b → v6.ownBlock ≠ some b := fun b hb e => by
        rcases hb6 b e with h | h
        · exact hdis b hb h
        · have hb : some g = some b := hb
          have := hx4.size
          simp at hb; omega
      repeat (first | refine sp ?_ | (refine is_load ?_; refine ld ?_) | (refine is_store ?_; refine sr ?_) | (refine is_alloc ?_; refine al ?_) | (refine is_box ?_; refine bx ?_) | (refine isl_load ?_; refine ldl ?_) | (refine isl_store ?_; refine srl ?_) | (refine isl_alloc ?_; refine all' ?_) | (refine isl_box ?_; refine bxl ?_))
      refine go_as 8 (u' := .int .u32 (T.rt.root : Int)) rfl (by rw [hk2]) ?_
      refine go_stop (G := Tr × List Tr × Value × List Tr × Value × AR × Nat) (T.rt, path', .slice (some ⟨g, 0, none⟩) np cp2, (out' ++ [U]) ++ [T], v6, B, n) rfl ⟨rfl, trivial⟩ ⟨by rw [List.append_assoc]; exact hsum, hso2, hRi, fun U hU => hpa U (by simp [hU]), fun j U hj => hph j U (by rw [List.getElem?_append_left (List.getElem?_eq_some_iff.1 hj).1]; exact hj), hRh, ?_, ?_, hdis6, ha6, hB, hF6⟩ (by show msr _ _ < msr _ _; simp [msr, Tr.sz]; omega)
      · unfold OwnD
        rw [show (ndsOf A path').length = np by rw [← hnp]; exact List.length_map _]; exact hop6
      · unfold OwnD
        rw [show ndsOf A ((out' ++ [U]) ++ [T]) = ndsOf A (out' ++ [U]) ++ [N] by rw [← hN]; simp [ndsOf], List.length_append, List.flatMap_append, hool, hcN]
        exact ho6

end Go.Proofs.Ytfaeboamjfdjlaa
