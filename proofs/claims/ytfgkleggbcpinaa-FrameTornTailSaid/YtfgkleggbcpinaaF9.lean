/-
  The walks of the laws 'affine' and 'bits'.
-/
import Derived.Test.YtfgkleggbcpinaaF7
import Derived.Test.YtfgkleggbcpinaaF8
set_option linter.unusedVariables false
namespace Go.Proofs.Ytfgkleggbcpinaa
open Go.Vc

theorem takeB {w : World} {sa : Option Addr} {l : List (BitVec 8)} {n : Nat} (h : RdC w sa (l.map u8)) : RdC w sa ((l.take n).map u8) := by
  intro j u hj
  rw [List.map_take, List.getElem?_take] at hj
  split at hj
  · exact h j u hj
  · cases hj

theorem byTake {w : World} {sa : Option Addr} {cap : Nat} {l : List (BitVec 8)} {n : Nat} (h : RdC w sa (l.map u8)) (hn : n ≤ l.length) (hc : l.length ≤ cap) : By w (.slice sa n cap) (l.take n) :=
  ⟨sa, cap, by rw [List.length_take]; congr 1; omega, by rw [List.length_take]; omega, takeB h⟩

theorem cell_lt {w : World} {b o : Nat} {v : Value} (h : w.cell? ⟨b, o, none⟩ = some v) : b < w.heap.size := by
  by_cases hb : b < w.heap.size
  · exact hb
  · simp [World.cell?, Array.getElem?_eq_none (Nat.le_of_not_lt hb)] at h

def xor3 (a b c : List (BitVec 8)) : List (BitVec 8) := List.zipWith (· ^^^ ·) (List.zipWith (· ^^^ ·) a b) c
theorem xor3_len {a b c : List (BitVec 8)} {n : Nat} (h1 : a.length = n) (h2 : b.length = n) (h3 : c.length = n) : (xor3 a b c).length = n := by simp [xor3, h1, h2, h3]
theorem xor3_get {a b c : List (BitVec 8)} {i : Nat} (h1 : i < a.length) (h2 : i < b.length) (h3 : i < c.length) : (xor3 a b c)[i]? = some (a[i] ^^^ b[i] ^^^ c[i]) := by
  rw [List.getElem?_eq_getElem (by simp [xor3]; omega)]
  simp [xor3]

def part (L : List (BitVec 8)) (i : Nat) : List Value := (L.take i).map u8 ++ List.replicate (L.length - i) (u8 0#8)
theorem part_len (L : List (BitVec 8)) {i : Nat} (h : i ≤ L.length) : (part L i).length = L.length := by simp [part]; omega
theorem part_set (L : List (BitVec 8)) {i : Nat} (h : i < L.length) : (part L i).set i (u8 L[i]) = part L (i+1) := by
  unfold part
  have e : ((L.take i).map u8).length = i := by simp; omega
  rw [List.set_append_right _ _ (by omega), e, Nat.sub_self, List.take_succ_eq_append_getElem h, show L.length - i = (L.length - (i+1)) + 1 by omega, List.replicate_succ, List.map_append, List.append_assoc]
  simp [-List.map_take]
theorem part_full (L : List (BitVec 8)) : part L L.length = L.map u8 := by simp [part]

set_option maxHeartbeats 1000000 in
theorem c_LawAffine (v1 v2 v3 : Value) (l1 l2 l3 : List (BitVec 8)) (w : World) (h1 : l1.length ≤ 9223372036854775807) (h2 : l2.length ≤ 9223372036854775807) (h3 : l3.length ≤ 9223372036854775807) (hv1 : By w v1 l1) (hv2 : By w v2 l2) (hv3 : By w v3 l3) :
    Calls Try.prog 5 [v1, v2, v3].toArray w (Ret fun r w' => r = .bool true ∧ Ext w w') := by
  obtain ⟨s1, cap1, rfl, hcap1, hr1⟩ := hv1
  obtain ⟨s2, cap2, rfl, hcap2, hr2⟩ := hv2
  obtain ⟨s3, cap3, rfl, hcap3, hr3⟩ := hv3
  obtain ⟨n, hn⟩ : ∃ n : Nat, n = min (min (min l1.length l2.length) l3.length) 300 := ⟨_, rfl⟩
  have hn1 : n ≤ l1.length := by omega
  have hn2 : n ≤ l2.length := by omega
  have hn3 : n ≤ l3.length := by omega
  have hn4 : n ≤ 300 := by omega
  have e1 : (l1.take n).length = n := by simp; omega
  have e2 : (l2.take n).length = n := by simp; omega
  have e3 : (l3.take n).length = n := by simp; omega
  obtain ⟨L, hL⟩ : ∃ L, L = xor3 (l1.take n) (l2.take n) (l3.take n) := ⟨_, rfl⟩
  have eL : L.length = n := by rw [hL]; exact xor3_len e1 e2 e3
  refine calls_go Try.func5 rfl Try.ntmps5 (Nat.le_of_ble_eq_true rfl) ?_
  repeat (first | refine sp ?_ | (refine is_load ?_; refine ld ?_) | (refine is_store ?_; refine sr ?_) | (refine is_alloc ?_; refine al ?_) | (refine is_box ?_; refine bx ?_))
  refine go_p rfl (pr_min4 rfl rfl rfl rfl) ?_
  refine go_as 16 (u' := .int .i64 (n : Int)) rfl (by congr 1; omega) ?_
  repeat (first | refine sp ?_ | (refine is_load ?_; refine ld ?_) | (refine is_store ?_; refine sr ?_) | (refine is_alloc ?_; refine al ?_) | (refine is_box ?_; refine bx ?_))
  refine go_makeN (c := n) rfl rfl rfl rfl rfl (by omega) (by unfold maxLen; omega) rfl ?_
  repeat (first | refine sp ?_ | (refine is_load ?_; refine ld ?_) | (refine is_store ?_; refine sr ?_) | (refine is_alloc ?_; refine al ?_) | (refine is_box ?_; refine bx ?_))
  refine go_loop (G := Nat) [9] (fun i => [.int .i64 i]) [(0, .slice s1 l1.length cap1), (1, .slice s2 l2.length cap2), (2, .slice s3 l3.length cap3), (7, .int .i64 n), (8, .slice (some ⟨w.heap.size, 0, none⟩) n n)]
    (fun i w' => i ≤ n ∧ Ext w w' ∧ At w' w.heap.size (part L i) 5) (fun i => n - i) 0 rfl ⟨rfl, rfl, rfl, rfl, rfl, trivial⟩ ⟨by omega, ?_, ?_⟩ ?_
  · (repeat (first | exact Fr.refl _ _ | assumption | apply Fr.drewN | apply Fr.alloc | (refine Fr.setRow ?_ _ (by first | exact Or.inr (by (first | omega | (simp; done) | (simp; omega))) | (exact Or.inl (by first | assumption | (simp; done)))))))
  · have : part L 0 = List.replicate n (u8 0#8) := by simp [part, eL]
    rw [this]
    exact At.new _ _ _
  rintro i w2 ⟨hi, hx, ha⟩
  by_cases hlt : i < n
  · obtain ⟨b1, o1, rfl, hc1⟩ := hr1.get (show i < l1.length by omega)
    obtain ⟨b2, o2, rfl, hc2⟩ := hr2.get (show i < l2.length by omega)
    obtain ⟨b3, o3, rfl, hc3⟩ := hr3.get (show i < l3.length by omega)
    have hb1 := cell_lt hc1
    have hb2 := cell_lt hc2
    have hb3 := cell_lt hc3
    have hd1 : w2.cell? ⟨b1, o1 + i, none⟩ = some (u8 l1[i]) := hx.cell hc1 id
    have hd2 : w2.cell? ⟨b2, o2 + i, none⟩ = some (u8 l2[i]) := hx.cell hc2 id
    have hd3 : w2.cell? ⟨b3, o3 + i, none⟩ = some (u8 l3[i]) := hx.cell hc3 id
    have hg : L[i]'(by omega) = l1[i] ^^^ l2[i] ^^^ l3[i] := by
      have := xor3_get (a := l1.take n) (b := l2.take n) (c := l3.take n) (i := i) (by omega) (by omega) (by omega)
      rw [← hL, List.getElem?_eq_getElem (by omega)] at this
      simpa using this
    have hn1 : b1 ≠ w.heap.size := by omega
    have hn2 : b2 ≠ w.heap.size := by omega
    have hn3 : b3 ≠ w.heap.size := by omega
    generalize l1[i] = x1 at *
    generalize l2[i] = x2 at *
    generalize l3[i] = x3 at *
    have hpl : (part L i).length = n := by rw [part_len L (by omega), eL]
    repeat (first | refine sp ?_ | (refine is_load ?_; refine ld ?_) | (refine is_store ?_; refine sr ?_) | (refine is_alloc ?_; refine al ?_) | (refine is_box ?_; refine bx ?_))
    (refine go_draw (Fr (fun q => q = w.heap.size) w2) Try.follows (by kernel_rfl) (by kernel_rfl) ?_ ?_)
    · exact (Fr.refl _ _).drewN 1
    repeat (first | refine sp ?_ | (refine is_load ?_; refine ld ?_) | (refine is_store ?_; refine sr ?_) | (refine is_alloc ?_; refine al ?_) | (refine is_box ?_; refine bx ?_))
    refine gol_load rfl rfl (ldD_cell hd1 hn1) ?_
    repeat (first | refine sp ?_ | (refine is_load ?_; refine ld ?_) | (refine is_store ?_; refine sr ?_) | (refine is_alloc ?_; refine al ?_) | (refine is_box ?_; refine bx ?_))
    refine gol_load rfl rfl (ldD_cell hd2 hn2) ?_
    repeat (first | refine sp ?_ | (refine is_load ?_; refine ld ?_) | (refine is_store ?_; refine sr ?_) | (refine is_alloc ?_; refine al ?_) | (refine is_box ?_; refine bx ?_))
    refine gol_p rfl rfl (pr_xor8 rfl rfl) ?_
    repeat (first | refine sp ?_ | (refine is_load ?_; refine ld ?_) | (refine is_store ?_; refine sr ?_) | (refine is_alloc ?_; refine al ?_) | (refine is_box ?_; refine bx ?_))
    refine gol_load rfl rfl (ldD_cell hd3 hn3) ?_
    repeat (first | refine sp ?_ | (refine is_load ?_; refine ld ?_) | (refine is_store ?_; refine sr ?_) | (refine is_alloc ?_; refine al ?_) | (refine is_box ?_; refine bx ?_))
    refine gol_p rfl rfl (pr_xor8 rfl rfl) ?_
    repeat (first | refine sp ?_ | (refine is_load ?_; refine ld ?_) | (refine is_store ?_; refine sr ?_) | (refine is_alloc ?_; refine al ?_) | (refine is_box ?_; refine bx ?_))
    rw [← hg]
    refine gol_store rfl rfl (st_at (ha.drewN 1) (by omega) rfl) ?_ ?_
    · exact ((Fr.refl _ _).drewN 1).setRow _ (Or.inl rfl)
    rw [Nat.zero_add, part_set L (by omega)]
    repeat (first | refine sp ?_ | (refine is_load ?_; refine ld ?_) | (refine is_store ?_; refine sr ?_) | (refine is_alloc ?_; refine al ?_) | (refine is_box ?_; refine bx ?_))
    refine go_stop (i+1) rfl ⟨rfl, rfl, rfl, rfl, rfl, trivial⟩ ⟨by omega, ?_, ?_⟩ (by show n - (i+1) < n - i; omega)
    · exact (hx.drewN 1).setRow _ (Or.inr (Nat.le_refl _))
    · exact (ha.drewN 1).setRow _
  · obtain rfl : i = n := by omega
    have hfull : part L i = L.map u8 := by rw [← eL]; exact part_full L
    rw [hfull] at ha
    repeat (first | refine sp ?_ | (refine is_load ?_; refine ld ?_) | (refine is_store ?_; refine sr ?_) | (refine is_alloc ?_; refine al ?_) | (refine is_box ?_; refine bx ?_))
    (refine go_draw (Ext w2) Try.follows (by kernel_rfl) (by kernel_rfl) ?_ ?_)
    · exact (Fr.refl _ _).drewN 1
    have hx2 : Ext w2 (w2.drewN 1) := (Fr.refl _ _).drewN 1
    refine gol_call rfl rfl (c_awake _) ?_
    rintro r w3 ⟨rfl, hx3⟩
    have hx3' := hx2.trans hx3
    refine ⟨hx3', ?_⟩
    repeat (first | refine sp ?_ | (refine is_load ?_; refine ld ?_) | (refine is_store ?_; refine sr ?_) | (refine is_alloc ?_; refine al ?_) | (refine is_box ?_; refine bx ?_))
    refine gol_p rfl rfl (pr_slice (by decide) rfl rfl rfl (show i ≤ cap1 by omega)) ?_
    refine sp ?_
    refine gol_call rfl rfl (c_Checksum _ (l1.take i) w3 (by omega) ((byTake hr1 hn1 hcap1).ext (hx.trans hx3'))) ?_
    rintro r w4 ⟨rfl, hx4⟩
    have hx4' := hx3'.trans hx4
    refine ⟨hx4', ?_⟩
    repeat (first | refine sp ?_ | (refine is_load ?_; refine ld ?_) | (refine is_store ?_; refine sr ?_) | (refine is_alloc ?_; refine al ?_) | (refine is_box ?_; refine bx ?_))
    refine gol_p rfl rfl (pr_slice (by decide) rfl rfl rfl (show i ≤ cap2 by omega)) ?_
    refine sp ?_
    refine gol_call rfl rfl (c_Checksum _ (l2.take i) w4 (by omega) ((byTake hr2 hn2 hcap2).ext (hx.trans hx4'))) ?_
    rintro r w5 ⟨rfl, hx5⟩
    have hx5' := hx4'.trans hx5
    refine ⟨hx5', ?_⟩
    refine sp ?_
    refine gol_p rfl rfl (pr_xor32 rfl rfl) ?_
    repeat (first | refine sp ?_ | (refine is_load ?_; refine ld ?_) | (refine is_store ?_; refine sr ?_) | (refine is_alloc ?_; refine al ?_) | (refine is_box ?_; refine bx ?_))
    refine gol_p rfl rfl (pr_slice (by decide) rfl rfl rfl (show i ≤ cap3 by omega)) ?_
    refine sp ?_
    refine gol_call rfl rfl (c_Checksum _ (l3.take i) w5 (by omega) ((byTake hr3 hn3 hcap3).ext (hx.trans hx5'))) ?_
    rintro r w6 ⟨rfl, hx6⟩
    have hx6' := hx5'.trans hx6
    refine ⟨hx6', ?_⟩
    refine sp ?_
    refine gol_p rfl rfl (pr_xor32 rfl rfl) ?_
    repeat (first | refine sp ?_ | (refine is_load ?_; refine ld ?_) | (refine is_store ?_; refine sr ?_) | (refine is_alloc ?_; refine al ?_) | (refine is_box ?_; refine bx ?_))
    have hb : By w6 (.slice (some ⟨w.heap.size, 0, none⟩) i i) L := by
      refine ⟨_, i, by rw [eL], by omega, fun j u hj => ⟨_, _, rfl, ?_⟩⟩
      have := (ha.ext hx6').cell (i := j) (v := u) hj
      simpa using this
    refine gol_call rfl rfl (c_Checksum _ L w6 (by omega) hb) ?_
    rintro r w7 ⟨rfl, hx7⟩
    have hx7' := hx6'.trans hx7
    refine ⟨hx7', ?_⟩
    have haff : extP 0#32 (l1.take i) ^^^ extP 0#32 (l2.take i) ^^^ extP 0#32 (l3.take i) = extP 0#32 L := by
      rw [affine _ _ _ (by omega) (by omega), hL]; rfl
    rw [haff]
    repeat (first | refine sp ?_ | (refine is_load ?_; refine ld ?_) | (refine is_store ?_; refine sr ?_) | (refine is_alloc ?_; refine al ?_) | (refine is_box ?_; refine bx ?_))
    exact go_ret1 rfl rfl ⟨_, rfl, rfl, hx.trans hx7'⟩
end Go.Proofs.Ytfgkleggbcpinaa
