/- Disks in plain words: sectors that stand, writes that wait. No program. -/
import Derived.Test.YtjijniillehfoaaArBase
namespace Go.Own
/-- Sectors that stand, writes that wait, whether the power is off, how many writes are left. -/
structure Dk where
  L : List (List UInt8)
  wait : List (Nat × List UInt8)
  off : Bool
  left : Int
def Secs (L : List (List UInt8)) : Prop := ∀ s ∈ L, s.length = 512
theorem secs_len {L : List (List UInt8)} (h : Secs L) : L.flatten.length = 512 * L.length := by
  induction L with
  | nil => rfl
  | cons s L ih =>
    rw [List.flatten_cons, List.length_append, h s (List.mem_cons_self ..), ih fun s hs => h s (List.mem_cons_of_mem _ hs), List.length_cons]; omega
theorem secs_set {L : List (List UInt8)} (h : Secs L) (i : Nat) {s : List UInt8} (hs : s.length = 512) : Secs (L.set i s) := fun x hx => by
  rcases List.mem_or_eq_of_mem_set hx with hx | rfl
  · exact h x hx
  · exact hs
theorem secs_at {L : List (List UInt8)} (h : Secs L) : ∀ (i : Nat) (hi : i < L.length), (L.flatten.drop (512 * i)).take 512 = L[i] := by
  induction L with
  | nil => intro i hi; simp at hi
  | cons s L ih =>
    have hs := h s (List.mem_cons_self ..)
    intro i hi
    cases i with
    | zero => rw [List.flatten_cons, Nat.mul_zero, List.drop_zero, List.take_append_of_le_length (by omega), List.take_of_length_le (by omega)]; rfl
    | succ i =>
      rw [List.flatten_cons, List.drop_append, List.drop_of_length_le (by omega), List.nil_append, hs, show 512 * (i + 1) - 512 = 512 * i by omega]
      simpa using ih (fun s hs => h s (List.mem_cons_of_mem _ hs)) i (by simpa using hi)
theorem secs_lay {L : List (List UInt8)} (h : Secs L) (i : Nat) (hi : i < L.length) {b : List UInt8} (hb : b.length = 512) : lay L.flatten (512 * i) b = (L.set i b).flatten := by
  induction L generalizing i with
  | nil => simp at hi
  | cons s L ih =>
    have hs := h s (List.mem_cons_self ..)
    unfold lay
    cases i with
    | zero => simp only [Nat.mul_zero, List.take_zero, List.nil_append, Nat.zero_add, List.set_cons_zero, List.flatten_cons]; rw [List.drop_append, List.drop_of_length_le (by omega), List.nil_append, hb, hs]; simp
    | succ i =>
      have := ih (fun s hs => h s (List.mem_cons_of_mem _ hs)) i (by simpa using hi)
      unfold lay at this
      simp only [List.set_cons_succ, List.flatten_cons]
      rw [← this, List.take_append, List.take_of_length_le (by omega), List.drop_append, List.drop_of_length_le (by omega), hs, List.nil_append, show 512 * (i + 1) - 512 = 512 * i by omega, show 512 * (i + 1) + b.length - 512 = 512 * i + b.length by omega]
      simp
/-- The writes that are kept come to stand, one behind the other. -/
def standL : (List (Nat × List UInt8)) → (Nat → Bool) → Nat → List (List UInt8) → List (List UInt8)
  | [], _, _, L => L
  | (i, b) :: r, keep, k, L => standL r keep (k + 1) (if keep k then L.set i b else L)
theorem standL_nil (keep : Nat → Bool) (k : Nat) (L : List (List UInt8)) : standL [] keep k L = L := rfl
theorem standL_cons (i : Nat) (b : List UInt8) (r : List (Nat × List UInt8)) (keep : Nat → Bool) (k : Nat) (L : List (List UInt8)) : standL ((i, b) :: r) keep k L = standL r keep (k + 1) (if keep k then L.set i b else L) := rfl
def Dk.stand (D : Dk) (keep : Nat → Bool) : Dk := { D with L := standL D.wait keep 0 D.L, wait := [] }
def Dk.write (D : Dk) (i : Int) (b : List UInt8) : Int × Dk :=
  if ¬ (0 ≤ i ∧ i < D.L.length ∧ b.length = 512) then (1, D)
  else if D.off ∨ D.left = 0 then (6, { D with off := true })
  else (0, { D with left := if 0 < D.left then D.left - 1 else D.left, wait := D.wait ++ [(i.toNat, b)] })
def lastOf (l : List (Nat × List UInt8)) (i : Nat) (s : List UInt8) : List UInt8 := l.foldl (fun s x => if x.1 = i then x.2 else s) s
def Dk.read (D : Dk) (i : Int) : Int × List UInt8 :=
  if ¬ (0 ≤ i ∧ i < D.L.length) then (1, []) else if D.off then (6, []) else (0, lastOf D.wait i.toNat (D.L.getD i.toNat []))
def Dk.flush (D : Dk) : Int × Dk := if D.off then (6, D) else (0, D.stand fun _ => true)
def Dk.cut (D : Dk) (n : Int) : Dk := { D with left := max n (-1) }
def Dk.boot (D : Dk) (keep : List Bool) : Dk := { D.stand (fun k => keep.getD k false) with off := false, left := -1 }
/-- A disk as it may be. -/
structure Dk.Good (D : Dk) : Prop where
  secs : Secs D.L
  many : 2 ≤ D.L.length ∧ D.L.length ≤ 128
  waits : ∀ x ∈ D.wait, x.1 < D.L.length ∧ x.2.length = 512
  left : -1 ≤ D.left ∧ D.left ≤ 9223372036854775807
theorem standL_secs : ∀ (l : List (Nat × List UInt8)) (keep : Nat → Bool) (k : Nat) (L : List (List UInt8)), Secs L → (∀ x ∈ l, x.1 < L.length ∧ x.2.length = 512) → Secs (standL l keep k L) ∧ (standL l keep k L).length = L.length
  | [], _, _, L, h, _ => ⟨h, rfl⟩
  | (i, b) :: r, keep, k, L, h, hw => by
    have h0 := hw (i, b) (List.mem_cons_self ..)
    unfold standL
    have hl : (if keep k then L.set i b else L).length = L.length := by split <;> simp
    have := standL_secs r keep (k + 1) (if keep k then L.set i b else L) (by split; exact secs_set h i h0.2; exact h) (fun x hx => by rw [hl]; exact hw x (List.mem_cons_of_mem _ hx))
    rw [hl] at this
    exact this
theorem Dk.Good.stand {D : Dk} (h : D.Good) (keep : Nat → Bool) : (D.stand keep).Good := by
  obtain ⟨h1, h2⟩ := standL_secs D.wait keep 0 D.L h.secs h.waits
  exact ⟨h1, by have e : (D.stand keep).L.length = D.L.length := h2; rw [e]; exact h.many, (fun x hx => by cases hx), h.left⟩
theorem Dk.Good.write {D : Dk} (h : D.Good) (i : Int) (b : List UInt8) : (D.write i b).2.Good := by
  unfold Dk.write
  split
  · exact h
  · rename_i hi
    split
    · exact ⟨h.secs, h.many, h.waits, h.left⟩
    · refine ⟨h.secs, h.many, fun x hx => ?_, ?_⟩
      · rcases List.mem_append.1 hx with hx | hx
        · exact h.waits x hx
        · obtain rfl := List.mem_singleton.1 hx
          have hi := Classical.not_not.1 hi
          exact ⟨by show i.toNat < D.L.length; omega, hi.2.2⟩
      · have := h.left
        have k : -1 ≤ (if 0 < D.left then D.left - 1 else D.left) ∧ (if 0 < D.left then D.left - 1 else D.left) ≤ 9223372036854775807 := by split <;> omega
        exact k
theorem Dk.Good.cut {D : Dk} (h : D.Good) (n : Int) (hn : n ≤ 9223372036854775807) : (D.cut n).Good := ⟨h.secs, h.many, h.waits, by show -1 ≤ max n (-1) ∧ max n (-1) ≤ _; omega⟩
theorem Dk.Good.boot {D : Dk} (h : D.Good) (keep : List Bool) : (D.boot keep).Good :=
  have := h.stand fun k => keep.getD k false
  ⟨this.secs, this.many, this.waits, by show (-1 : Int) ≤ -1 ∧ (-1 : Int) ≤ _; omega⟩
theorem lastOf_len {l : List (Nat × List UInt8)} (h : ∀ x ∈ l, x.2.length = 512) (i : Nat) : ∀ (s : List UInt8), s.length = 512 → (lastOf l i s).length = 512 := by
  induction l with
  | nil => intro s hs; exact hs
  | cons x l ih =>
    intro s hs
    unfold lastOf
    rw [List.foldl_cons]
    refine ih (fun y hy => h y (List.mem_cons_of_mem _ hy)) _ ?_
    split
    · exact h x (List.mem_cons_self ..)
    · exact hs
/-- Looked for from behind. -/
def findBack (l : List (Nat × List UInt8)) (i : Nat) : Nat → Option (List UInt8)
  | 0 => none
  | k + 1 => match l[k]? with
    | some x => if x.1 = i then some x.2 else findBack l i k
    | none => findBack l i k
theorem lastOf_take (l : List (Nat × List UInt8)) (i : Nat) (s : List UInt8) (k : Nat) (hk : k < l.length) : lastOf (l.take (k + 1)) i s = if (l[k]).1 = i then (l[k]).2 else lastOf (l.take k) i s := by
  rw [List.take_succ_eq_append_getElem hk]
  unfold lastOf
  rw [List.foldl_append]
  rfl
end Go.Own
