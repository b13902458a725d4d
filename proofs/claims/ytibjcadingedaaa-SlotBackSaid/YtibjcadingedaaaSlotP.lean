/- A slot's record, in plain words, and its laws. -/
import Derived.Test.YtibjcadingedaaaCrcQ
namespace Go.Own
def recOk (g len : Nat) : Bool := decide (1 ≤ g ∧ g ≤ 4611686018427387904 ∧ len ≤ 65536)
def recHead (g len sum : Nat) : List UInt8 := [83, 76, 79, 84, 0, 0, 0, 0] ++ (low g 8 ++ (low len 8 ++ low sum 4))
/-- A record's bytes. -/
def recB (g len sum : Nat) : List UInt8 := if recOk g len then sealed (recHead g len sum) ++ List.replicate 480 0 else []
theorem recHead_length (g len sum : Nat) : (recHead g len sum).length = 28 := by simp [recHead, low_length]
theorem recB_length (g len sum : Nat) (h : recOk g len = true) : (recB g len sum).length = 512 := by
  unfold recB; rw [if_pos h]; simp only [sealed, List.length_append, List.length_replicate, recHead_length, low_length]
theorem recB_none (g len sum : Nat) (h : recOk g len = false) : recB g len sum = [] := by unfold recB; rw [h]; rfl
/-- The numbers that stand where a record has them. -/
def fld (b : List UInt8) (at_ n : Nat) : Nat := num ((b.drop at_).take n)
/-- Is it a record's bytes? -/
def isRec (b : List UInt8) : Bool := decide (recOk (fld b 8 8) (fld b 16 8) = true ∧ recB (fld b 8 8) (fld b 16 8) (fld b 24 4) = b)
theorem fld_mid (a m c : List UInt8) (i n : Nat) (hi : a.length = i) (hn : m.length = n) : fld (a ++ (m ++ c)) i n = num m := by
  subst hi; subst hn; unfold fld; simp
theorem recB_flds (g len sum : Nat) (h : recOk g len = true) (hs : sum < 4294967296) : fld (recB g len sum) 8 8 = g ∧ fld (recB g len sum) 16 8 = len ∧ fld (recB g len sum) 24 4 = sum := by
  have hk : 1 ≤ g ∧ g ≤ 4611686018427387904 ∧ len ≤ 65536 := of_decide_eq_true h
  have p8 : (256 : Nat) ^ 8 = 18446744073709551616 := by decide
  have p4 : (256 : Nat) ^ 4 = 4294967296 := by decide
  unfold recB sealed recHead
  rw [if_pos h]
  simp only [List.append_assoc]
  refine ⟨?_, ?_, ?_⟩
  · rw [fld_mid _ _ _ 8 8 rfl (low_length _ _), num_low, Nat.mod_eq_of_lt (by omega)]
  · rw [← List.append_assoc, fld_mid _ _ _ 16 8 (by simp [low_length]) (low_length _ _), num_low, Nat.mod_eq_of_lt (by omega)]
  · rw [← List.append_assoc, ← List.append_assoc, fld_mid _ _ _ 24 4 (by simp [low_length]) (low_length _ _), num_low, Nat.mod_eq_of_lt (by omega)]
theorem isRec_put (g len sum : Nat) (h : recOk g len = true) (hs : sum < 4294967296) : isRec (recB g len sum) = true := by
  obtain ⟨a, b, c⟩ := recB_flds g len sum h hs
  unfold isRec; rw [a, b, c]; exact decide_eq_true ⟨h, rfl⟩
/-- With four bytes that stand together turned it is no record's any more. -/
theorem rec_turn (g len sum : Nat) (h : recOk g len = true) (p s : List UInt8) (m n : Nat) (hm : m < 4294967296) (hn : n < 4294967296) (hne : m ≠ n) (hb : recB g len sum = p ++ low m 4 ++ s) : isRec (p ++ low n 4 ++ s) = false := by
  rw [← Bool.not_eq_true]
  intro hr
  obtain ⟨h1, h2⟩ : recOk _ _ = true ∧ recB _ _ _ = p ++ low n 4 ++ s := of_decide_eq_true hr
  generalize fld (p ++ low n 4 ++ s) 8 8 = g' at h1 h2
  generalize fld (p ++ low n 4 ++ s) 16 8 = len' at h1 h2
  generalize fld (p ++ low n 4 ++ s) 24 4 = sum' at h2
  unfold recB at hb h2
  rw [if_pos h] at hb
  rw [if_pos h1] at h2
  have hx := recHead_length g len sum
  have hy := recHead_length g' len' sum'
  generalize recHead g len sum = x at hb hx
  generalize recHead g' len' sum' = y at h2 hy
  have l1 := congrArg List.length hb
  simp only [sealed, List.length_append, low_length, hx, List.length_replicate] at l1
  by_cases hs : 480 ≤ s.length
  · obtain ⟨s1, s2, hs12, hs2⟩ : ∃ s1 s2, s = s1 ++ s2 ∧ s2.length = 480 := ⟨s.take (s.length - 480), s.drop (s.length - 480), (List.take_append_drop _ _).symm, by rw [List.length_drop]; omega⟩
    subst hs12
    rw [← List.append_assoc] at hb h2
    have ⟨e1, _⟩ := List.append_inj' hb (by rw [List.length_replicate, hs2])
    have ⟨e2, _⟩ := List.append_inj' h2 (by rw [List.length_replicate, hs2])
    exact hne (sealed_turn x y p s1 m n hm hn e1 e2)
  · -- the head stands as it did
    have e1 := congrArg (List.take 28) hb
    have e2 := congrArg (List.take 28) h2
    have t : ∀ z : List UInt8, z.length = 28 → (sealed z ++ List.replicate 480 0).take 28 = z := by
      intro z hz
      unfold sealed
      rw [List.append_assoc, List.take_append_of_le_length (by omega), List.take_of_length_le (by omega)]
    have u : ∀ v : Nat, (p ++ low v 4 ++ s).take 28 = p.take 28 := by
      intro v
      rw [List.append_assoc, List.take_append_of_le_length (by omega)]
    rw [t x hx, u] at e1
    rw [t y hy, u] at e2
    rw [e1] at hb
    rw [e2] at h2
    have e3 := hb.symm.trans h2
    have e4 := List.append_cancel_right e3
    have e5 := List.append_cancel_left e4
    exact hne (low_inj (k := 4) (by simpa using hm) (by simpa using hn) e5)
end Go.Own
