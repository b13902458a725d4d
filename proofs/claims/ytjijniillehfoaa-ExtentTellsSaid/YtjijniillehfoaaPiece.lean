/- 'b[i:j]' of bytes: some slice that reads as the piece, whatever the capacity. -/
import Derived.Test.YtjijniillehfoaaArBase
import Derived.WalkKit
namespace Go.Own
open Go Go.RowKit
theorem Bs.cutIf {w : World} {a : Option Addr} {n c : Nat} {l : List UInt8} (h : Bs w a n c l) (i j : Nat) (hij : i ≤ j) (hj : j ≤ n) :
    Bs w (if c = i then a else a.map (·.add i)) (j - i) (c - i) ((l.take j).drop i) := by
  have hc := Sl.cap h; have hr := Sl.room h; have hl := h.len
  have hlen : ((l.take j).drop i).length = j - i := by rw [List.length_drop, List.length_take]; omega
  by_cases h0 : j - i = 0
  · have : (l.take j).drop i = [] := List.eq_nil_of_length_eq_zero (by omega)
    rw [this, h0]
    refine Sl.mk rfl (Nat.zero_le _) (by omega) (fun hn => ?_) (fun i v h => by simp at h)
    cases a with
    | none => have := h.nilcap rfl; omega
    | some p => split at hn <;> cases hn
  · obtain ⟨b, o, rfl, _⟩ := Sl.some h (by omega) (by decide)
    rw [if_neg (by omega)]
    have := h.cut i j hij hj
    have e : (⟨b, o, none⟩ : Addr).add i = ⟨b, o + i, none⟩ := by unfold Addr.add; split <;> simp_all
    simpa [e] using this
theorem run_size1 {P : Program} {e : TypeId} (he : (P.info? e).map (·.size) = some 1) (w : World) : (sizeOf e).run P w = .ok 1 w := by
  cases hi : P.info? e with
  | none => rw [hi] at he; cases he
  | some i => rw [hi] at he; simp [sizeOf, typeInfo, hi]; simpa using he
theorem elem_eq {P : Program} {t e : TypeId} (ht : P.underlying t = some (.slice e)) : P.elem t = e := by simp [Program.elem, ht]
section
variable {P : Program} {t e : TypeId} (ht : P.underlying t = some (.slice e)) (he : (P.info? e).map (·.size) = some 1)
include ht he
theorem piece {w : World} {a : Option Addr} {n c : Nat} {l : List UInt8} (h : Bs w a n c l) (k k' : IntKind) (I J : Int) (i j : Nat) (hI : I = i) (hJ : J = j) (hij : i ≤ j) (hj : j ≤ n) :
    ∃ a' c', (∀ W : World, (Instr.sliceAt t (.slice a n c) (some (.int k I)) (some (.int k' J)) none).run P W = .ok (.slice a' (j - i) c') W) ∧ Bs w a' (j - i) c' ((l.take j).drop i) ∧ (∀ p, a' = some p → ∃ q, a = some q ∧ q.block = p.block) := by
  subst hI; subst hJ
  have hc := Sl.cap h
  refine ⟨_, _, fun W => ?_, h.cutIf i j hij hj, fun p hp => ?_⟩
  · rw [run_sliceAt_slice W t _ _ _ _ (by rw [elem_eq ht]; exact ht), run_slice_lh W t a n c (by rw [elem_eq ht]; exact ht) k k' i j (by omega) (by omega) (by omega), elem_eq ht, run_size1 he]
    simp [Result.andThen, sliced]
  · split at hp
    · exact ⟨p, hp, rfl⟩
    · cases a with
      | none => cases hp
      | some q => cases hp; refine ⟨q, rfl, ?_⟩; unfold Addr.add; split <;> rfl
theorem piece_to {w : World} {a : Option Addr} {n c : Nat} {l : List UInt8} (h : Bs w a n c l) (k : IntKind) (J : Int) (j : Nat) (hJ : J = j) (hj : j ≤ n) :
    ∃ a' c', (∀ W : World, (Instr.sliceAt t (.slice a n c) none (some (.int k J)) none).run P W = .ok (.slice a' j c') W) ∧ Bs w a' j c' (l.take j) ∧ (∀ p, a' = some p → ∃ q, a = some q ∧ q.block = p.block) := by
  subst hJ
  have hc := Sl.cap h
  have hx := h.cutIf 0 j (Nat.zero_le _) hj
  simp only [Nat.sub_zero, List.drop_zero] at hx
  refine ⟨_, _, fun W => ?_, hx, fun p hp => ?_⟩
  · rw [run_sliceAt_slice W t _ _ _ _ (by rw [elem_eq ht]; exact ht), run_slice_h W t a n c (by rw [elem_eq ht]; exact ht) k j (by omega) (by omega), elem_eq ht, run_size1 he]
    simp [Result.andThen, sliced]
  · split at hp
    · exact ⟨p, hp, rfl⟩
    · cases a with
      | none => cases hp
      | some q => cases hp; refine ⟨q, rfl, ?_⟩; unfold Addr.add; split <;> rfl
theorem piece_from {w : World} {a : Option Addr} {n c : Nat} {l : List UInt8} (h : Bs w a n c l) (k : IntKind) (I : Int) (i : Nat) (hI : I = i) (hi : i ≤ n) :
    ∃ a' c', (∀ W : World, (Instr.sliceAt t (.slice a n c) (some (.int k I)) none none).run P W = .ok (.slice a' (n - i) c') W) ∧ Bs w a' (n - i) c' (l.drop i) ∧ (∀ p, a' = some p → ∃ q, a = some q ∧ q.block = p.block) := by
  subst hI
  have hl := h.len
  have hx := h.cutIf i n hi (Nat.le_refl _)
  rw [List.take_of_length_le (by omega)] at hx
  refine ⟨_, _, fun W => ?_, hx, fun p hp => ?_⟩
  · rw [run_sliceAt_slice W t _ _ _ _ (by rw [elem_eq ht]; exact ht), run_slice_l W t a n c (by rw [elem_eq ht]; exact ht) k i (by omega) (by omega), elem_eq ht, run_size1 he]
    simp [Result.andThen, sliced]
  · split at hp
    · exact ⟨p, hp, rfl⟩
    · cases a with
      | none => cases hp
      | some q => cases hp; refine ⟨q, rfl, ?_⟩; unfold Addr.add; split <;> rfl
end
theorem Bs.drewN {w : World} {a : Option Addr} {n c : Nat} {l : List UInt8} (h : Bs w a n c l) (k : Nat) : Bs (w.drewN k) a n c l := Sl.keep (F := fun _ => False) h ((Keep.refl _ w).drewN k) fun _ _ h => h
end Go.Own
