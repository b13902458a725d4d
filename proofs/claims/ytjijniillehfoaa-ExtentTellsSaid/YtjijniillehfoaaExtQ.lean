/- What is written over sectors comes back. No program. -/
import Derived.Test.YtjijniillehfoaaExtP
namespace Go.Own
/-- The power is on and no cut is set. -/
def Dk.On (D : Dk) : Prop := D.off = false ∧ D.left = -1
def outW (A : Nat) : Nat → List UInt8 → List (Nat × List UInt8)
  | 0, _ => []
  | k + 1, b => (A, secB b) :: outW (A + 1) k (b.drop 512)
theorem outW_len : ∀ (k A : Nat) (b : List UInt8), (outW A k b).length = k
  | 0, _, _ => rfl
  | k + 1, A, b => by unfold outW; rw [List.length_cons, outW_len k]
theorem Dk.write_on {D : Dk} (h : D.On) (A : Nat) (hA : A < D.L.length) {s : List UInt8} (hs : s.length = 512) : D.write A s = (0, { D with wait := D.wait ++ [(A, s)] }) := by
  obtain ⟨L, wait, off, left⟩ := D
  obtain ⟨h1, h2⟩ := h
  simp only at h1 h2 hA
  subst h1; subst h2
  unfold Dk.write
  rw [if_neg (by simp only; omega), if_neg (by simp), Int.toNat_natCast]
  rfl
theorem Dk.outN_on : ∀ (k : Nat) (D : Dk) (A : Nat) (b : List UInt8), D.On → A + k ≤ D.L.length → D.outN A k b = (0, { D with wait := D.wait ++ outW A k b })
  | 0, D, A, b, _, _ => by unfold Dk.outN outW; rw [List.append_nil]
  | k + 1, D, A, b, h, hk => by
    have hw := D.write_on h A (by omega) (secB_len b)
    unfold Dk.outN
    rw [hw]
    simp only [if_true]
    have ih := Dk.outN_on k { D with wait := D.wait ++ [(A, secB b)] } (A + 1) (b.drop 512) h (by show A + 1 + k ≤ D.L.length; omega)
    rw [show ((A : Int) + 1) = ((A + 1 : Nat) : Int) by omega, ih]
    rw [show outW A (k + 1) b = (A, secB b) :: outW (A + 1) k (b.drop 512) from rfl]
    simp only [List.append_assoc, List.singleton_append]
theorem outW_lt : ∀ (k A : Nat) (b : List UInt8), ∀ x ∈ outW A k b, x.1 < A + k ∧ A ≤ x.1 ∧ x.2.length = 512
  | 0, _, _, x, h => by cases h
  | k + 1, A, b, x, h => by
    unfold outW at h
    rcases List.mem_cons.1 h with rfl | h
    · exact ⟨by simp only; omega, Nat.le_refl _, secB_len b⟩
    · have := outW_lt k (A + 1) _ x h
      exact ⟨by omega, by omega, this.2.2⟩
theorem lastOf_none : ∀ (l : List (Nat × List UInt8)) (i : Nat) (s : List UInt8), (∀ x ∈ l, x.1 ≠ i) → lastOf l i s = s
  | [], _, _, _ => rfl
  | x :: r, i, s, h => by
    unfold lastOf
    rw [List.foldl_cons, if_neg (h x (List.mem_cons_self ..))]
    exact lastOf_none r i s fun y hy => h y (List.mem_cons_of_mem _ hy)
theorem lastOf_outW : ∀ (k A : Nat) (b : List UInt8) (j : Nat) (s : List UInt8), j < k → lastOf (outW A k b) (A + j) s = secB (b.drop (512 * j))
  | 0, _, _, _, _, h => by omega
  | k + 1, A, b, 0, s, h => by
    unfold outW lastOf
    rw [List.foldl_cons, if_pos (by simp)]
    exact lastOf_none _ _ _ fun x hx => by have := (outW_lt k (A + 1) _ x hx).2.1; omega
  | k + 1, A, b, j + 1, s, h => by
    have ih := lastOf_outW k (A + 1) (b.drop 512) j s (by omega)
    unfold outW lastOf
    rw [List.foldl_cons, if_neg (by simp)]
    rw [List.drop_drop, show 512 + 512 * j = 512 * (j + 1) by omega, show A + 1 + j = A + (j + 1) by omega] at ih
    exact ih
/-- The sectors as they would be read: what stands, and over it what waits. -/
theorem secsAt_eq (D : Dk) (at_ k : Nat) : D.secsAt at_ k = ((List.range k).map fun i => lastOf D.wait (at_ + i) (D.L.getD (at_ + i) [])).flatten := rfl
theorem flat_range : ∀ (k : Nat) (f g : Nat → List UInt8), (∀ i, i < k → f i = g i) → ((List.range k).map f).flatten = ((List.range k).map g).flatten
  | k, f, g, h => by
    congr 1
    apply List.map_congr_left
    intro i hi
    exact h i (List.mem_range.1 hi)
theorem flat_secB : ∀ (k : Nat) (b : List UInt8), k = secsN b.length → ((List.range k).map fun i => secB (b.drop (512 * i))).flatten = padB b := by
  intro k b hk
  have : ∀ j, j ≤ k → ((List.range j).map fun i => secB (b.drop (512 * i))).flatten = (padB b).take (512 * j) := by
    intro j
    induction j with
    | zero => intro _; simp
    | succ j ih =>
      intro hj
      rw [List.range_succ, List.map_append, List.flatten_append, ih (by omega)]
      simp only [List.map_cons, List.map_nil, List.flatten_cons, List.flatten_nil, List.append_nil]
      rw [← padB_at b j (by omega), show 512 * (j + 1) = 512 * j + 512 by omega, List.take_add]
  rw [this k (Nat.le_refl _), List.take_of_length_le (by rw [padB_len, hk]; exact Nat.le_refl _)]
theorem padB_take (b : List UInt8) : (padB b).take b.length = b := by unfold padB; rw [List.take_append_of_le_length (Nat.le_refl _), List.take_length]
theorem flat_zero : ∀ (k : Nat), ((List.range k).map fun _ => List.replicate 512 (0 : UInt8)).flatten = List.replicate (512 * k) 0
  | 0 => rfl
  | k + 1 => by
    rw [List.range_succ, List.map_append, List.flatten_append, flat_zero k]
    simp only [List.map_cons, List.map_nil, List.flatten_cons, List.flatten_nil, List.append_nil]
    rw [List.replicate_append_replicate]; congr 1
theorem standL_getD : ∀ (l : List (Nat × List UInt8)) (k : Nat) (L : List (List UInt8)) (i : Nat), (∀ x ∈ l, x.1 < L.length) → i < L.length → (standL l (fun _ => true) k L).getD i [] = lastOf l i (L.getD i [])
  | [], _, _, _, _, _ => rfl
  | (j, b) :: r, k, L, i, h, hi => by
    have hj := h (j, b) (List.mem_cons_self ..)
    simp only at hj
    rw [standL_cons, if_pos rfl, standL_getD r (k + 1) (L.set j b) i (fun x hx => by rw [List.length_set]; exact h x (List.mem_cons_of_mem _ hx)) (by rw [List.length_set]; exact hi)]
    unfold lastOf
    rw [List.foldl_cons]
    congr 1
    rw [List.getD_eq_getElem?_getD, List.getD_eq_getElem?_getD, List.getElem?_set]
    simp only
    split
    · rename_i e; subst e; simp [hi]
    · rfl
/-- Flushing changes nothing that is read. -/
theorem Dk.secsAt_stand {D : Dk} (h : D.Good) (at_ k : Nat) (hk : at_ + k ≤ D.L.length) : (D.stand fun _ => true).secsAt at_ k = D.secsAt at_ k := by
  unfold Dk.secsAt
  refine flat_range k _ _ fun i hi => ?_
  show lastOf [] (at_ + i) ((standL D.wait (fun _ => true) 0 D.L).getD (at_ + i) []) = _
  rw [standL_getD _ _ _ _ (fun x hx => (h.waits x hx).1) (by omega)]
  rfl
def zdk (S : Nat) : Dk := ⟨List.replicate S (List.replicate 512 0), [], false, -1⟩
theorem zdk_getD (S i : Nat) (h : i < S) : (zdk S).L.getD i [] = List.replicate 512 0 := by
  unfold zdk
  generalize List.replicate 512 (0 : UInt8) = z
  simp [h]
/-- Written on a fresh disk: the bytes, and 0 ahead and behind. -/
theorem back_secs (S A : Nat) (b : List UInt8) (k : Nat) (hk : k = secsN b.length) (h : A + k ≤ S) (w : List (Nat × List UInt8)) (hw : w = outW A k b) :
    (Dk.secsAt { zdk S with wait := w } A k).take b.length = b ∧ (Dk.secsAt { zdk S with wait := w } 0 A) = List.replicate (512 * A) 0 ∧ (Dk.secsAt { zdk S with wait := w } (A + k) (S - (A + k))) = List.replicate (512 * (S - (A + k))) 0 := by
  subst hw
  refine ⟨?_, ?_, ?_⟩
  · unfold Dk.secsAt
    rw [flat_range k _ (fun i => secB (b.drop (512 * i))) fun i hi => lastOf_outW k A b i _ hi, flat_secB k b hk, padB_take]
  · unfold Dk.secsAt
    rw [flat_range A _ (fun _ => List.replicate 512 0) fun i hi => ?_, flat_zero]
    rw [lastOf_none _ _ _ fun x hx => by have := (outW_lt k A b x hx).2.1; omega]
    exact zdk_getD S (0 + i) (by omega)
  · unfold Dk.secsAt
    rw [flat_range _ _ (fun _ => List.replicate 512 0) fun i hi => ?_, flat_zero]
    rw [lastOf_none _ _ _ fun x hx => by have := (outW_lt k A b x hx).1; omega]
    exact zdk_getD S (A + k + i) (by omega)
theorem Dk.out_on {D : Dk} (h : D.On) (A : Nat) (b : List UInt8) (k : Nat) (hk : k = secsN b.length) (hl : A + k ≤ D.L.length) : D.out A b = (0, { D with wait := D.wait ++ outW A k b }) := by
  subst hk
  unfold Dk.out Dk.may
  rw [if_pos (by rw [decide_eq_true_iff, Int.toNat_natCast]; omega)]
  exact D.outN_on _ A b h hl
theorem Dk.out_no (D : Dk) (at_ : Int) (b : List UInt8) (h : ¬ (0 ≤ at_ ∧ at_ + secsN b.length ≤ D.L.length)) : D.out at_ b = (1, D) := by
  unfold Dk.out Dk.may
  rw [if_neg (by rw [decide_eq_true_iff, Int.toNat_natCast]; exact fun h' => h h'.2)]
theorem Dk.inp_on {D : Dk} (h : D.off = false) (A N : Nat) (hl : A + secsN N ≤ D.L.length) : D.inp A N = (0, (D.secsAt A (secsN N)).take N) := by
  unfold Dk.inp Dk.may
  rw [if_pos (by rw [decide_eq_true_iff, Int.toNat_natCast]; omega), Int.toNat_natCast, Int.toNat_natCast]
  by_cases hn : (N : Int) = 0
  · have : N = 0 := by omega
    subst this
    rw [if_pos (show ((0 : Nat) : Int) = 0 from rfl), List.take_zero]
  · rw [if_neg hn, if_neg (by rw [h]; exact Bool.false_ne_true)]
theorem Dk.outN_code : ∀ (k : Nat) (D : Dk) (at_ : Int) (b : List UInt8), 0 ≤ (D.outN at_ k b).1 ∧ (D.outN at_ k b).1 ≤ 10
  | 0, _, _, _ => ⟨by show (0 : Int) ≤ 0; decide, by show (0 : Int) ≤ 10; decide⟩
  | k + 1, D, at_, b => by
    unfold Dk.outN
    split
    · exact Dk.outN_code k _ _ _
    · unfold Dk.write
      split
      · exact ⟨by show (0:Int) ≤ 1; decide, by show (1:Int) ≤ 10; decide⟩
      · split
        · exact ⟨by show (0:Int) ≤ 6; decide, by show (6:Int) ≤ 10; decide⟩
        · exact ⟨by show (0:Int) ≤ 0; decide, by show (0:Int) ≤ 10; decide⟩
theorem Dk.out_code (D : Dk) (at_ : Int) (b : List UInt8) : 0 ≤ (D.out at_ b).1 ∧ (D.out at_ b).1 ≤ 10 := by
  unfold Dk.out
  split
  · exact Dk.outN_code _ _ _ _
  · exact ⟨by show (0:Int) ≤ 1; decide, by show (1:Int) ≤ 10; decide⟩
theorem Dk.inp_code (D : Dk) (at_ n : Int) : 0 ≤ (D.inp at_ n).1 ∧ (D.inp at_ n).1 ≤ 10 := by
  unfold Dk.inp
  split
  · split
    · exact ⟨by show (0:Int) ≤ 0; decide, by show (0:Int) ≤ 10; decide⟩
    · split
      · exact ⟨by show (0:Int) ≤ 6; decide, by show (6:Int) ≤ 10; decide⟩
      · exact ⟨by show (0:Int) ≤ 0; decide, by show (0:Int) ≤ 10; decide⟩
  · exact ⟨by show (0:Int) ≤ 1; decide, by show (1:Int) ≤ 10; decide⟩
theorem Dk.out_wait (D : Dk) (at_ : Int) (b : List UInt8) (hL : D.L.length ≤ 128) : (D.out at_ b).2.wait.length ≤ D.wait.length + 128 ∧ (D.out at_ b).2.L = D.L := by
  by_cases h : 0 ≤ at_ ∧ at_ + secsN b.length ≤ D.L.length
  · unfold Dk.out Dk.may
    rw [if_pos (by rw [decide_eq_true_iff, Int.toNat_natCast]; exact ⟨by omega, h⟩)]
    have := Dk.outN_wait (secsN b.length) D at_ b
    exact ⟨by omega, this.2⟩
  · rw [D.out_no at_ b h]
    exact ⟨Nat.le_add_right _ _, rfl⟩
end Go.Own
