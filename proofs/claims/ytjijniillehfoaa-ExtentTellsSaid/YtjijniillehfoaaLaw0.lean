/- Cells of a slice of structs; the statements' Pick. -/
import Derived.Test.YtjijniillehfoaaArena3
import Derived.Test.YtjijniillehfoaaWf
namespace Go.Own
open Go Go.RowKit
theorem flat_at {α : Type} (f : α → List Value) (z : Nat) (hz : ∀ d, (f d).length = z) : ∀ (ds : List α) (k : Nat) (hk : k < ds.length) (j : Nat), j < z → (ds.map f).flatten[k * z + j]? = (f ds[k])[j]?
  | [], k, hk, _, _ => absurd hk (Nat.not_lt_zero _)
  | d :: ds, 0, _, j, hj => by
    rw [List.map_cons, List.flatten_cons, Nat.zero_mul, Nat.zero_add, List.getElem?_append_left (by rw [hz]; exact hj)]; rfl
  | d :: ds, k + 1, hk, j, hj => by
    rw [List.map_cons, List.flatten_cons, Nat.succ_mul, List.getElem?_append_right (by rw [hz]; omega), hz, show k * z + z + j - z = k * z + j by omega]
    exact flat_at f z hz ds k (by simpa using hk) j hj
/-- The cells of a slice of structs, each as it is addressed. -/
theorem sl_at {α : Type} {f : α → List Value} {z : Nat} {w : World} {a : Option Addr} {n c : Nat} {ds : List α} (h : Sl w a n c z (ds.map f).flatten) (hz : ∀ d, (f d).length = z) (h0 : 0 < z) (k : Nat) (hk : k < ds.length) :
    ∃ b o, a = some ⟨b, o, none⟩ ∧ ∀ j v, (f ds[k])[j]? = some v → w.cell? ⟨b, o + k * z + j, none⟩ = some v := by
  have h1 := flat_at f z hz ds k hk 0 h0
  have h2 : (f ds[k])[0]? = some ((f ds[k])[0]'(by rw [hz]; exact h0)) := List.getElem?_eq_getElem _
  obtain ⟨b, o, rfl, _⟩ := h.cells _ _ (h1.trans h2)
  refine ⟨b, o, rfl, fun j v hv => ?_⟩
  have hj : j < z := by have := (List.getElem?_eq_some_iff.1 hv).1; rw [hz] at this; exact this
  obtain ⟨b', o', e, hc⟩ := h.cells _ _ ((flat_at f z hz ds k hk j hj).trans hv)
  cases e
  rw [Nat.add_assoc]; exact hc
end Go.Own
namespace Go.Proofs.Ytjijniillehfoaa
open Go Go.RowKit Go.Own
set_option linter.unusedVariables false
set_option maxRecDepth 100000
theorem keep_cell {B : Nat} {w w' : World} {b o : Nat} {v : Value} (hk : Keep (fun x => B ≤ x) w w') (hc : w.cell? ⟨b, o, none⟩ = some v) (hb : b < B := by assumption) : w'.cell? ⟨b, o, none⟩ = some v := by
  rw [cell_of_block (w := w) (p := ⟨b, o, none⟩) (hk.block b (World.block_lt_of_cell? w _ hc) (by show ¬ B ≤ b; omega))]; exact hc
theorem law_Pick (w : World) (n b : Int) (h0 : -9223372036854775808 ≤ n) (h1 : n ≤ 9223372036854775807) (b0 : 0 < b) (b1 : b ≤ 4611686018427387904) :
    Calls Try.prog 29 #[.int .i64 n, .int .i64 b] w fun e w' => e = .returned (.int .i64 (n % b)) ∧ w = w' := by
  have hne : ¬ b = 0 := by omega
  have hbz : (b == 0) = false := by rw [beq_eq_false_iff_ne]; omega
  by_cases hn : 0 ≤ n
  · have ht : n.tmod b = n % b := Int.tmod_eq_emod_of_nonneg hn
    have hp := Int.emod_nonneg n hne
    have hlt := Int.emod_lt_of_pos n b0
    generalize n % b = q at *
    go_enter Try.func29, Try.ntmps29
    go_wp2
    go_ret
    exact ⟨rfl, rfl⟩
  · have hp := Int.emod_nonneg n hne
    have hlt := Int.emod_lt_of_pos n b0
    have ht : n.tmod b = if n % b = 0 then 0 else n % b - b := by
      rw [Int.tmod_eq_emod]
      by_cases hz : n % b = 0
      · have : b ∣ n := Int.dvd_of_emod_eq_zero hz
        simp [hz, this]
      · have : ¬ b ∣ n := fun h => hz (Int.emod_eq_zero_of_dvd h)
        rw [if_neg hz, if_neg (by simp [hn, this])]
        have : (b.natAbs : Int) = b := by omega
        rw [this]
    generalize n % b = q at *
    by_cases hz : q = 0
    · rw [if_pos hz] at ht
      subst hz
      go_enter Try.func29, Try.ntmps29
      go_wp2
      go_ret
      exact ⟨rfl, rfl⟩
    · rw [if_neg hz] at ht
      clear hz
      go_enter Try.func29, Try.ntmps29
      go_wp2
      go_ret
      exact ⟨rI (by omega), rfl⟩
end Go.Proofs.Ytjijniillehfoaa
