/-
  Reference counts: an arena that is sound stays so, and releases come to an end. No program in sight.
-/
import Derived.Test.YtapocbahkeoeoaaS9
set_option linter.unusedVariables false
namespace Go.Proofs.Ytapocbahkeoeoaa
open Go.Vc

def sumTo (f : Nat → Nat) : Nat → Nat
  | 0 => 0
  | n + 1 => sumTo f n + f n

theorem sumTo_congr {f g : Nat → Nat} : ∀ {n : Nat}, (∀ i, i < n → f i = g i) → sumTo f n = sumTo g n
  | 0, _ => rfl
  | n + 1, h => by simp only [sumTo]; rw [sumTo_congr (fun i hi => h i (by omega)), h n (by omega)]

theorem sumTo_one {f g : Nat → Nat} {k : Nat} : ∀ {n : Nat}, k < n → (∀ i, i < n → i ≠ k → f i = g i) → sumTo f n + g k = sumTo g n + f k
  | 0, hk, _ => by omega
  | n + 1, hk, h => by
    simp only [sumTo]
    by_cases e : k = n
    · subst e
      rw [sumTo_congr (f := f) (g := g) (fun i hi => h i (by omega) (by omega))]; omega
    · have := sumTo_one (f := f) (g := g) (k := k) (n := n) (by omega) (fun i hi hne => h i (by omega) hne)
      rw [h n (by omega) (fun e2 => e e2.symm)]; omega

theorem sumTo_zero {f : Nat → Nat} : ∀ {n : Nat}, sumTo f n = 0 → ∀ i, i < n → f i = 0
  | 0, _, i, hi => by omega
  | n + 1, h, i, hi => by
    simp only [sumTo] at h
    by_cases e : i = n
    · subst e; omega
    · exact sumTo_zero (n := n) (by omega) i (by omega)

theorem sumTo_le {f : Nat → Nat} {m : Nat} (hf : ∀ i, f i ≤ m) : ∀ n, sumTo f n ≤ n * m
  | 0 => by simp [sumTo]
  | n + 1 => by
    have := sumTo_le hf n
    have := hf n
    simp only [sumTo, Nat.succ_mul]; omega

def eq01 (a b : Nat) : Nat := if a = b then 1 else 0

/-- How many children of slot 'k' are 'i'. -/
def edge (A : AR) (k i : Nat) : Nat := if A.used k = true then eq01 (A.node k).left i + eq01 (A.node k).right i else 0
def edges (A : AR) (i : Nat) : Nat := sumTo (fun k => edge A k i) (A.cap + 1)
def usedN (A : AR) : Nat := sumTo (fun k => if A.used k = true then 1 else 0) (A.cap + 1)

theorem edge_le (A : AR) (k i : Nat) : edge A k i ≤ 2 := by
  unfold edge eq01
  split
  · split <;> split <;> omega
  · omega

/-- The counts are those of the edges and of the references that are held ('h'); the nodes fit their children. -/
structure Sound (A : AR) (h : Nat → Nat) : Prop where
  wf : Wf A
  ok : NdOk A
  cnt : ∀ i, A.used i = true → A.cnt i = (edges A i + h i : Nat)
  pos : ∀ i, A.used i = true → 1 ≤ edges A i + h i
  hz : ∀ i, 1 ≤ i → A.used i = false → h i = 0
  kid : ∀ k, A.used k = true → ((A.node k).left = 0 ∨ A.used (A.node k).left = true) ∧ ((A.node k).right = 0 ∨ A.used (A.node k).right = true)
  agg : ∀ k, A.used k = true → A.node k = mkN A (A.node k).key (A.node k).val (A.node k).left (A.node k).right
  zero : ∀ k, A.used k = false → A.node k = Nd.zero

theorem Sound.congr {A : AR} {h h' : Nat → Nat} (s : Sound A h) (e : ∀ i, 1 ≤ i → h i = h' i) : Sound A h' := by
  refine ⟨s.wf, s.ok, fun i hi => ?_, fun i hi => ?_, fun i h1 hi => ?_, s.kid, s.agg, s.zero⟩
  · rw [s.cnt i hi, e i (s.wf.uf i hi).1]
  · rw [← e i (s.wf.uf i hi).1]; exact s.pos i hi
  · rw [← e i h1]; exact s.hz i h1 hi

theorem edges_le {A : AR} (h : Wf A) (i : Nat) : edges A i ≤ 131074 := by
  have := sumTo_le (f := fun k => edge A k i) (m := 2) (fun k => edge_le A k i) (A.cap + 1)
  have := h.capM
  unfold edges; omega

theorem Sound.new {n : Nat} (h1 : 1 ≤ n) (h2 : n ≤ 65536) : Sound (AR.new n) (fun _ => 0) :=
  ⟨Wf.new h1 h2, NdOk.new, fun i h => by simp [AR.new] at h, fun i h => by simp [AR.new] at h, fun _ _ _ => rfl, fun i h => by simp [AR.new] at h, fun i h => by simp [AR.new] at h, fun _ _ => rfl⟩

theorem mkN_congr {A B : AR} {k v : Int} {l r : Nat} (hl : l = 0 ∨ A.node l = B.node l) (hr : r = 0 ∨ A.node r = B.node r) : mkN A k v l r = mkN B k v l r := by
  have e : ∀ (c : Nat) (n : Nd), c = 0 ∨ A.node c = B.node c → addC A c n = addC B c n := by
    intro c n h
    unfold addC
    split
    · rfl
    · rcases h with h | h
      · contradiction
      · rw [h]
  unfold mkN
  rw [e l _ hl, e r _ hr]

/-! ### Retain -/

def addH (h : Nat → Nat) (i : Nat) : Nat → Nat := fun j => h j + eq01 i j

theorem Sound.inc {A : AR} {h : Nat → Nat} (s : Sound A h) {i : Nat} (hi : A.used i = true) (hb : h i ≤ 1000000000) : Sound (A.inc i) (addH h i) := by
  have he : ∀ j, edges (A.inc i) j = edges A j := fun j => rfl
  have hle := edges_le s.wf i
  refine ⟨s.wf.congr rfl rfl rfl rfl rfl, ⟨s.ok.ch, s.ok.sz⟩, fun j hj => ?_, fun j hj => ?_, fun j h1 hj => ?_, s.kid, s.agg, s.zero⟩
  · have hj : A.used j = true := hj
    show upd A.cnt i (w64 (A.cnt i + 1)) j = _
    rw [he]
    unfold addH eq01
    by_cases e : j = i
    · subst e
      rw [upd_same, s.cnt j hj, w64_in (by omega), if_pos rfl]; omega
    · rw [upd_ne _ _ e, s.cnt j hj, if_neg (fun e2 => e e2.symm)]; omega
  · have := s.pos j hj
    rw [he]; unfold addH; omega
  · have hj : A.used j = false := hj
    unfold addH eq01
    rw [s.hz j h1 hj, if_neg (fun e => by subst e; rw [hi] at hj; cases hj)]

/-! ### Make -/

theorem edges_zero {A : AR} {h : Nat → Nat} (s : Sound A h) {i : Nat} (h1 : 1 ≤ i) (hi : A.used i = false) : edges A i = 0 := by
  have : ∀ k, edge A k i = 0 := by
    intro k
    unfold edge eq01
    split
    · rename_i hk
      have := s.kid k hk
      rw [if_neg, if_neg]
      · rintro rfl
        rcases this.2 with h | h
        · omega
        · rw [hi] at h; cases h
      · rintro rfl
        rcases this.1 with h | h
        · omega
        · rw [hi] at h; cases h
    · rfl
  unfold edges
  rw [sumTo_congr (g := fun _ => 0) (fun k _ => this k)]
  have : ∀ n, sumTo (fun _ => 0) n = 0 := fun n => by induction n with
    | zero => rfl
    | succ n ih => simp [sumTo, ih]
  exact this _

theorem makeE_zero {A : AR} {k v : Int} {l r : Nat} (h : A.makeE k v l r = 0) : (l = 0 ∨ A.used l = true) ∧ (r = 0 ∨ A.used r = true) ∧ (mkN A k v l r).size ≤ 2147483647 ∧ A.free ≠ 0 := by
  unfold AR.makeE at h
  split at h
  · omega
  · rename_i hn
    split at h
    · omega
    · rename_i hf
      refine ⟨?_, ?_, by omega, hf⟩
      · by_cases h0 : l = 0
        · exact Or.inl h0
        · right
          cases e : A.used l with
          | true => rfl
          | false => exact absurd (Or.inl ⟨h0, e⟩) hn
      · by_cases h0 : r = 0
        · exact Or.inl h0
        · right
          cases e : A.used r with
          | true => rfl
          | false => exact absurd (Or.inr (Or.inl ⟨h0, e⟩)) hn

theorem make_eq {A : AR} {k v : Int} {l r : Nat} (h : A.makeE k v l r = 0) : A.make k v l r = ((A.put (mkN A k v l r)).inc l).inc r := by unfold AR.make; rw [h]; rfl

theorem Sound.make {A : AR} {h : Nat → Nat} (s : Sound A h) (hb : ∀ i, h i ≤ 1000000000) {k v : Int} {l r : Nat} (hE : A.makeE k v l r = 0) : Sound (A.make k v l r) (addH h A.top) := by
  obtain ⟨hl, hr, hsz, hf⟩ := makeE_zero hE
  obtain ⟨t1, t2, t3⟩ := s.wf.top_bd hf
  have hs1 := mkN_size s.wf s.ok (k := k) (v := v) hl hr
  rw [make_eq hE]
  have hlt : l ≠ A.top := by rintro rfl; rcases hl with h | h; · omega
                             · rw [t3] at h; cases h
  have hrt : r ≠ A.top := by rintro rfl; rcases hr with h | h; · omega
                             · rw [t3] at h; cases h
  have hNl : (mkN A k v l r).left = l ∧ (mkN A k v l r).right = r := ⟨by unfold mkN; rw [(addC_lr _ _ _).1, (addC_lr _ _ _).1], by unfold mkN; rw [(addC_lr _ _ _).2.1, (addC_lr _ _ _).2.1]⟩
  have hNk : (mkN A k v l r).key = k ∧ (mkN A k v l r).val = v := ⟨by unfold mkN; rw [(addC_lr _ _ _).2.2.1, (addC_lr _ _ _).2.2.1], by unfold mkN; rw [(addC_lr _ _ _).2.2.2, (addC_lr _ _ _).2.2.2]⟩
  generalize hB : ((A.put (mkN A k v l r)).inc l).inc r = B
  have bu : B.used = upd A.used A.top true := by rw [← hB]; rfl
  have bn : B.node = upd A.node A.top (mkN A k v l r) := by rw [← hB]; rfl
  have bc : B.cap = A.cap := by rw [← hB]; rfl
  have bcnt : B.cnt = upd (upd (upd A.cnt A.top 1) l (w64 (upd A.cnt A.top 1 l + 1))) r (w64 (upd (upd A.cnt A.top 1) l (w64 (upd A.cnt A.top 1 l + 1)) r + 1)) := by rw [← hB]; rfl
  have bwf : Wf B := by
    have := s.wf.take hf
    rw [← hB]
    exact this.congr rfl rfl rfl rfl rfl
  -- the edges
  have hedge : ∀ j, edges B j = edges A j + (eq01 l j + eq01 r j) := by
    intro j
    have e1 : ∀ i, i < A.cap + 1 → i ≠ A.top → edge B i j = edge A i j := by
      intro i _ hne
      unfold edge
      rw [bu, bn, upd_ne _ _ hne, upd_ne _ _ hne]
    have e2 : edge B A.top j = eq01 l j + eq01 r j := by
      unfold edge
      rw [bu, bn, upd_same, upd_same, if_pos rfl, hNl.1, hNl.2]
    have e3 : edge A A.top j = 0 := by unfold edge; rw [t3]; rfl
    have := sumTo_one (f := fun i => edge B i j) (g := fun i => edge A i j) (k := A.top) (n := A.cap + 1) (by omega) e1
    simp only [e2, e3] at this
    unfold edges
    rw [bc]; omega
  have htop0 := edges_zero s t1 t3
  have hh0 := s.hz A.top t1 t3
  have hbu : ∀ j, B.used j = true → j = A.top ∨ (j ≠ A.top ∧ A.used j = true) := by
    intro j hj
    rw [bu] at hj
    unfold upd at hj
    by_cases e : j = A.top
    · exact Or.inl e
    · rw [if_neg e] at hj; exact Or.inr ⟨e, hj⟩
  have hcap := s.wf.capM
  have hval : ∀ j, j ≠ A.top → A.used j = true → B.cnt j = (edges A j + h j + (eq01 l j + eq01 r j) : Nat) := by
    intro j hne hj
    have hc := s.cnt j hj
    have hle := edges_le s.wf j
    have hhb := hb j
    have a1 : upd A.cnt A.top 1 j = (edges A j + h j : Nat) := by rw [upd_ne _ _ hne, hc]
    have a2 : upd (upd A.cnt A.top 1) l (w64 (upd A.cnt A.top 1 l + 1)) j = (edges A j + h j + eq01 l j : Nat) := by
      by_cases el : j = l
      · rw [← el, upd_same, a1, w64_in (by omega)]
        unfold eq01; rw [if_pos rfl]; omega
      · rw [upd_ne _ _ el, a1]
        unfold eq01; rw [if_neg (fun e => el e.symm)]; omega
    have h01 : eq01 l j ≤ 1 := by unfold eq01; split <;> omega
    rw [bcnt]
    by_cases er : j = r
    · rw [← er, upd_same, a2, w64_in (by omega)]
      unfold eq01; rw [if_pos (rfl : j = j)]; omega
    · rw [upd_ne _ _ er, a2]
      have : eq01 r j = 0 := by unfold eq01; rw [if_neg (fun e => er e.symm)]
      rw [this]; omega
  have htv : B.cnt A.top = 1 := by
    rw [bcnt, upd_ne _ _ (Ne.symm hrt), upd_ne _ _ (Ne.symm hlt), upd_same]
  have lrt : eq01 l A.top = 0 ∧ eq01 r A.top = 0 := by unfold eq01; rw [if_neg hlt, if_neg hrt]; exact ⟨rfl, rfl⟩
  refine ⟨bwf, ?_, fun j hj => ?_, fun j hj => ?_, fun j h1 hj => ?_, fun j hj => ?_, fun j hj => ?_, fun j hj => ?_⟩
  · constructor
    · intro j hj
      rw [bn, bc]
      rcases hbu j hj with rfl | ⟨hne, hj⟩
      · rw [upd_same, hNl.1, hNl.2]
        constructor
        · rcases hl with h | h
          · omega
          · exact (used_le s.wf h).2
        · rcases hr with h | h
          · omega
          · exact (used_le s.wf h).2
      · rw [upd_ne _ _ hne]; exact s.ok.ch j hj
    · intro j hj
      rw [bn]
      rcases hbu j hj with rfl | ⟨hne, hj⟩
      · rw [upd_same]; omega
      · rw [upd_ne _ _ hne]; exact s.ok.sz j hj
  · rcases hbu j hj with rfl | ⟨hne, hj⟩
    · rw [htv, hedge, htop0]
      unfold addH
      rw [hh0, lrt.1, lrt.2]
      simp [eq01]
    · rw [hval j hne hj, hedge]
      unfold addH
      have : eq01 A.top j = 0 := by unfold eq01; rw [if_neg (fun e => hne e.symm)]
      omega
  · rcases hbu j hj with rfl | ⟨hne, hj⟩
    · unfold addH; simp [eq01]; omega
    · have := s.pos j hj
      rw [hedge]; unfold addH; omega
  · rw [bu] at hj
    unfold upd at hj
    split at hj
    · cases hj
    · rename_i hne
      unfold addH eq01
      rw [s.hz j h1 hj, if_neg (fun e => hne e.symm)]
  · have hup : ∀ c, A.used c = true → B.used c = true := fun c hc => by
      rw [bu]; unfold upd; split
      · rfl
      · exact hc
    rw [bn]
    rcases hbu j hj with rfl | ⟨hne, hj⟩
    · rw [upd_same, hNl.1, hNl.2]
      exact ⟨hl.imp id (hup l), hr.imp id (hup r)⟩
    · rw [upd_ne _ _ hne]
      have := s.kid j hj
      exact ⟨this.1.imp id (hup _), this.2.imp id (hup _)⟩
  · have hcn : ∀ c, c = 0 ∨ A.used c = true → c = 0 ∨ A.node c = B.node c := fun c hc => by
      rcases hc with h | h
      · exact Or.inl h
      · right
        rw [bn, upd_ne]
        rintro rfl
        rw [t3] at h; cases h
    rcases hbu j hj with rfl | ⟨hne, hj⟩
    · have e : B.node A.top = mkN A k v l r := by rw [bn, upd_same]
      rw [e, hNl.1, hNl.2, hNk.1, hNk.2]
      exact mkN_congr (hcn l hl) (hcn r hr)
    · have e : B.node j = A.node j := by rw [bn, upd_ne _ _ hne]
      rw [e]
      have h1 := s.kid j hj
      have h2 := s.agg j hj
      have h3 := mkN_congr (k := (A.node j).key) (v := (A.node j).val) (hcn _ h1.1) (hcn _ h1.2)
      rw [← h3]; exact h2
  · rw [bu] at hj
    unfold upd at hj
    split at hj
    · cases hj
    · rename_i hne
      rw [bn, upd_ne _ _ hne]; exact s.zero j hj

/-! ### Release -/

theorem kids_count (x : Nd) (i : Nat) (hi : 1 ≤ i) : (kids x).count i = eq01 x.left i + eq01 x.right i := by
  unfold kids eq01
  by_cases h1 : x.left = 0 <;> by_cases h2 : x.right = 0 <;> simp [h1, h2, List.count_cons, List.count_nil] <;> (try (split <;> omega)) <;> omega

theorem gone_free {A : AR} (h : Wf A) (k : Nat) : (A.gone k).free = A.free + 1 := by
  have := h.fr
  show (A.rel ++ [k]).length + A.cap - A.fresh = A.rel.length + A.cap - A.fresh + 1
  simp; omega

theorem Sound.rel : ∀ (m : Nat) (A : AR) (h : Nat → Nat) (ws : List Nat), Sound A (fun i => h i + ws.count i) → (∀ k ∈ ws, 1 ≤ k) → 3 * usedN A + ws.length ≤ m → (∀ i, edges A i + (h i + ws.count i) ≤ 10000000000) →
    ∃ s B n, RelN s A ws B n ∧ Sound B h ∧ usedN A = usedN B + n ∧ s ≤ m ∧ B.free = A.free + n ∧ B.cap = A.cap ∧ B.reads = A.reads ∧ (∀ i, B.used i = true → A.used i = true ∧ B.node i = A.node i) ∧ B.gen = A.gen
  | m, A, h, [], s, _, _, _ => ⟨0, A, 0, ⟨rfl, rfl, rfl⟩, s.congr (fun i _ => by simp), by simp, Nat.zero_le _, rfl, rfl, rfl, fun i hi => ⟨hi, rfl⟩, rfl⟩
  | 0, A, h, k :: ws, s, _, hm, _ => by simp at hm
  | m + 1, A, h, k :: ws, s, hk, hm, hb => by
    have hk1 := hk k (by simp)
    have hcap := s.wf.capM
    have hku : A.used k = true := by
      cases e : A.used k with
      | true => rfl
      | false => have := s.hz k hk1 e; simp at this
    have hcnt := s.cnt k hku
    have hbk := hb k
    simp only [List.count_cons_self] at hcnt hbk
    have hdc : (A.dec k).cnt k = ((edges A k + (h k + ws.count k) : Nat) : Int) := by
      show upd A.cnt k (w64 (A.cnt k - 1)) k = _
      rw [upd_same, hcnt, w64_in (by omega)]; omega
    have hother : ∀ i, i ≠ k → (k :: ws).count i = ws.count i := fun i hi => by rw [List.count_cons_of_ne (Ne.symm hi)]
    -- the state with one reference less
    have hcd : ∀ i, i ≠ k → (A.dec k).cnt i = A.cnt i := fun i hi => upd_ne _ _ hi
    by_cases hpos : 0 < edges A k + (h k + ws.count k)
    · have s2 : Sound (A.dec k) (fun i => h i + ws.count i) := by
        refine ⟨s.wf.congr rfl rfl rfl rfl rfl, ⟨s.ok.ch, s.ok.sz⟩, fun i hi => ?_, fun i hi => ?_, fun i h1 hi => ?_, s.kid, s.agg, s.zero⟩
        · show _ = ((edges A i + _ : Nat) : Int)
          by_cases e : i = k
          · subst e; exact hdc
          · rw [hcd i e, s.cnt i hi, hother i e]
        · show 1 ≤ edges A i + _
          by_cases e : i = k
          · subst e; exact hpos
          · have := s.pos i hi; rw [hother i e] at this; exact this
        · replace hi : A.used i = false := hi
          have hne : i ≠ k := fun e => by rw [e, hku] at hi; cases hi
          have := s.hz i h1 hi; rw [hother i hne] at this; exact this
      obtain ⟨s', B, n, r1, r2, r3, r4, r5, r6, r7, r8, r9⟩ := Sound.rel m (A.dec k) h ws s2 (fun j hj => hk j (by simp [hj])) (by simp only [List.length_cons] at hm; show 3 * usedN A + _ ≤ _; omega)
        (fun i => by
          have := hb i
          show edges A i + _ ≤ _
          by_cases e : i = k
          · subst e; simp at this; omega
          · rw [hother i e] at this; exact this)
      exact ⟨s' + 1, B, n, ⟨k, ws, rfl, hku, Or.inl ⟨by rw [hdc]; omega, r1⟩⟩, r2, r3, by omega, r5, r6, r7, r8, r9⟩
    · -- the last one
      have he0 : edges A k = 0 := by omega
      have hh0 : h k = 0 := by omega
      have hw0 : ws.count k = 0 := by omega
      have hnk : ∀ j, A.used j = true → (A.node j).left ≠ k ∧ (A.node j).right ≠ k := by
        intro j hj
        have hjl := used_le s.wf hj
        have := sumTo_zero (f := fun i => edge A i k) (n := A.cap + 1) he0 j (by omega)
        simp only [edge, hj, if_true, eq01] at this
        constructor
        · intro e; rw [if_pos e] at this; omega
        · intro e; rw [if_pos e] at this; omega
      generalize hN : A.node k = N
      have hNk := hnk k hku
      rw [hN] at hNk
      have hBu : ∀ i, ((A.dec k).gone k).used i = true → i ≠ k ∧ A.used i = true := by
        intro i hi
        have hi : upd A.used k false i = true := hi
        unfold upd at hi
        split at hi
        · cases hi
        · rename_i e; exact ⟨e, hi⟩
      have hBn : ∀ i, i ≠ k → ((A.dec k).gone k).node i = A.node i := fun i hi => upd_ne _ _ hi
      have hBt : ∀ i, i ≠ k → A.used i = true → ((A.dec k).gone k).used i = true := fun i hi hu => by
        show upd A.used k false i = true
        rw [upd_ne _ _ hi]; exact hu
      have hedge : ∀ i, 1 ≤ i → edges A i = edges ((A.dec k).gone k) i + (kids N).count i := by
        intro i hi
        have hjl := used_le s.wf hku
        have e1 : ∀ j, j < A.cap + 1 → j ≠ k → edge A j i = edge ((A.dec k).gone k) j i := by
          intro j _ hne
          unfold edge
          rw [hBn j hne]
          show _ = if upd A.used k false j = true then _ else 0
          rw [upd_ne _ _ hne]
        have := sumTo_one (f := fun j => edge A j i) (g := fun j => edge ((A.dec k).gone k) j i) (k := k) (n := A.cap + 1) (by omega) e1
        have e2 : edge ((A.dec k).gone k) k i = 0 := by
          unfold edge
          rw [if_neg]
          show ¬ upd A.used k false k = true
          rw [upd_same]; simp
        have e3 : edge A k i = (kids N).count i := by
          unfold edge; rw [if_pos hku, hN, kids_count N i hi]
        simp only [e2, e3] at this
        unfold edges
        show _ = sumTo (fun j => edge ((A.dec k).gone k) j i) (A.cap + 1) + _
        omega
      have hedge0 : edges ((A.dec k).gone k) 0 ≤ edges A 0 := by
        have hjl := used_le s.wf hku
        have e1 : ∀ j, j < A.cap + 1 → j ≠ k → edge A j 0 = edge ((A.dec k).gone k) j 0 := by
          intro j _ hne
          unfold edge
          rw [hBn j hne]
          show _ = if upd A.used k false j = true then _ else 0
          rw [upd_ne _ _ hne]
        have := sumTo_one (f := fun j => edge A j 0) (g := fun j => edge ((A.dec k).gone k) j 0) (k := k) (n := A.cap + 1) (by omega) e1
        have e2 : edge ((A.dec k).gone k) k 0 = 0 := by
          unfold edge
          rw [if_neg]
          show ¬ upd A.used k false k = true
          rw [upd_same]; simp
        simp only [e2] at this
        unfold edges
        show sumTo (fun j => edge ((A.dec k).gone k) j 0) (A.cap + 1) ≤ _
        omega
      have hus : usedN A = usedN ((A.dec k).gone k) + 1 := by
        have hjl := used_le s.wf hku
        have e1 : ∀ j, j < A.cap + 1 → j ≠ k → (if A.used j = true then 1 else 0) = (if ((A.dec k).gone k).used j = true then 1 else 0) := by
          intro j _ hne
          show _ = if upd A.used k false j = true then 1 else 0
          rw [upd_ne _ _ hne]
        have := sumTo_one (f := fun j => if A.used j = true then 1 else 0) (g := fun j => if ((A.dec k).gone k).used j = true then 1 else 0) (k := k) (n := A.cap + 1) (by omega) e1
        have e2 : (if ((A.dec k).gone k).used k = true then 1 else 0) = 0 := by
          rw [if_neg]
          show ¬ upd A.used k false k = true
          rw [upd_same]; simp
        simp only [e2, hku, if_true] at this
        unfold usedN
        show _ = sumTo (fun j => if ((A.dec k).gone k).used j = true then 1 else 0) (A.cap + 1) + 1
        omega
      have hkc : ∀ i, (kids N ++ ws).count i = (kids N).count i + ws.count i := fun i => List.count_append
      have hNz : (kids N).count 0 = 0 := by
        rw [List.count_eq_zero]
        unfold kids
        intro hm
        rw [List.mem_append] at hm
        rcases hm with hm | hm
        · split at hm
          · cases hm
          · rename_i h1; simp at hm; exact h1 hm.symm
        · split at hm
          · cases hm
          · rename_i h1; simp at hm; exact h1 hm.symm
      have hnkc : (kids N).count k = 0 := by
        rw [kids_count N k hk1]; unfold eq01; rw [if_neg hNk.1, if_neg hNk.2]
      have s2 : Sound ((A.dec k).gone k) (fun i => h i + (kids N ++ ws).count i) := by
        refine ⟨?_, NdOk.gone (A := A.dec k) ⟨s.ok.ch, s.ok.sz⟩ k, fun i hi => ?_, fun i hi => ?_, fun i h1 hi => ?_, fun i hi => ?_, fun i hi => ?_, fun i hi => ?_⟩
        · exact (Wf.unput (s.wf.congr (A' := A.dec k) rfl rfl rfl rfl rfl) hku).congr rfl rfl rfl rfl rfl
        · obtain ⟨hne, hu⟩ := hBu i hi
          have h1 := (s.wf.uf i hu).1
          show (A.dec k).cnt i = _
          have := s.cnt i hu
          rw [hcd i hne, this, hother i hne, hedge i h1, hkc]
          congr 1; omega
        · obtain ⟨hne, hu⟩ := hBu i hi
          have h1 := (s.wf.uf i hu).1
          have := s.pos i hu
          rw [hother i hne, hedge i h1] at this
          rw [hkc]; omega
        · by_cases e : i = k
          · subst e; rw [hkc, hh0, hw0, hnkc]
          · have hi : upd A.used k false i = false := hi
            rw [upd_ne _ _ e] at hi
            have h2 := s.hz i h1 hi
            rw [hother i e] at h2
            have h3 : (kids N).count i = 0 := by
              rw [kids_count N i h1]
              have := s.kid k hku
              rw [hN] at this
              unfold eq01
              rw [if_neg, if_neg]
              · rintro rfl
                rcases this.2 with h | h
                · omega
                · rw [hi] at h; cases h
              · rintro rfl
                rcases this.1 with h | h
                · omega
                · rw [hi] at h; cases h
            rw [hkc]; omega
        · obtain ⟨hne, hu⟩ := hBu i hi
          rw [hBn i hne]
          have := s.kid i hu
          have h2 := hnk i hu
          exact ⟨this.1.imp id (hBt _ h2.1), this.2.imp id (hBt _ h2.2)⟩
        · obtain ⟨hne, hu⟩ := hBu i hi
          rw [hBn i hne]
          have h2 := hnk i hu
          have h3 := s.agg i hu
          have h4 := mkN_congr (A := A) (B := (A.dec k).gone k) (k := (A.node i).key) (v := (A.node i).val) (l := (A.node i).left) (r := (A.node i).right) (Or.inr (hBn _ h2.1).symm) (Or.inr (hBn _ h2.2).symm)
          rw [← h4]; exact h3
        · by_cases e : i = k
          · subst e
            show upd A.node i Nd.zero i = Nd.zero
            rw [upd_same]
          · have hi : upd A.used k false i = false := hi
            rw [upd_ne _ _ e] at hi
            rw [hBn i e]; exact s.zero i hi
      have hkl := kids_len N
      obtain ⟨s', B, n, r1, r2, r3, r4, r5, r6, r7, r8, r9⟩ := Sound.rel m ((A.dec k).gone k) h (kids N ++ ws) s2
        (fun j hj => by
          rw [List.mem_append] at hj
          rcases hj with hj | hj
          · rcases Nat.eq_zero_or_pos j with rfl | hp
            · exact absurd hj (List.count_eq_zero.1 hNz)
            · exact hp
          · exact hk j (by simp [hj]))
        (by simp only [List.length_cons, List.length_append] at hm ⊢; omega)
        (fun i => by
          have := hb i
          rw [hkc]
          rcases Nat.eq_zero_or_pos i with rfl | hp
          · rw [hother 0 (by omega)] at this
            rw [hNz]; omega
          · have h1 := hedge i hp
            by_cases e : i = k
            · subst e; rw [hnkc]; simp at this; omega
            · rw [hother i e] at this; omega)
      refine ⟨s' + 1, B, n + 1, ⟨k, ws, rfl, hku, Or.inr ⟨by rw [hdc]; omega, n, rfl, by rw [show (A.node k) = N from hN]; exact r1⟩⟩, r2, by omega, by omega, ?_, r6, r7, fun i hi => ?_, r9⟩
      · rw [r5, gone_free (s.wf.congr (A' := A.dec k) rfl rfl rfl rfl rfl)]
        show A.free + 1 + n = A.free + (n + 1)
        omega
      · obtain ⟨a, b⟩ := r8 i hi
        obtain ⟨hne, hu⟩ := hBu i a
        exact ⟨hu, by rw [b, hBn i hne]⟩

end Go.Proofs.Ytapocbahkeoeoaa
