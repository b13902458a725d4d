import Derived.Test.YtibjcadingedaaaSize
import Derived.Test.YtibjcadingedaaaShelf
namespace Go.Proofs.Ytibjcadingedaaa
open Go Go.RowKit Go.Own
set_option linter.unusedVariables false
theorem class_Need (w : World) (n : Int) (h0 : 0 ≤ n) (h1 : n ≤ 18446744073709551615) :
    Calls Try.prog 33 #[.int .u64 n] w fun e w' => e = .returned (.tuple #[.int .i64 (needS n), .bool (needOk n)]) ∧ w = w' := by
  by_cases hb : 16384 < n
  · have e1 : needS n = 0 := by unfold needS; rw [if_neg (by omega)]
    have e2 : needOk n = false := decide_eq_false (by omega)
    have E1 := Lib.hid e1; have E2 := Lib.hid e2
    clear e1 e2
    go_enter Try.func33, Try.ntmps33
    go_wp2
    go_ret2
    exact ⟨rIB E1.out.symm E2.out.symm, rfl⟩
  · obtain ⟨N, rfl⟩ : ∃ N : Nat, n = N := ⟨n.toNat, by omega⟩
    have ha := need_andNot (N + 31) (by omega)
    have ha' : bits .andNot .i64 ((N : Int) + 31) 15 = (((N + 31) / 16 * 16 : Nat) : Int) := by
      rw [← ha]; congr 1
    have hm : max (32 : Int) (((N + 31) / 16 * 16 : Nat) : Int) = (if (N : Int) ≤ 16 then (32 : Int) else ((N : Int) + 31) / 16 * 16) := by
      split <;> omega
    have hr : (((N + 31) / 16 * 16 : Nat) : Int) ≤ 32768 := by omega
    have hr0 : (0 : Int) ≤ (((N + 31) / 16 * 16 : Nat) : Int) := by omega
    clear ha
    generalize (((N + 31) / 16 * 16 : Nat) : Int) = M at ha' hm hr hr0
    by_cases hf : (N : Int) ≤ 16368
    · have e1 : needS N = max 32 M := by unfold needS; rw [if_pos hf, hm]
      have e2 : needOk N = true := decide_eq_true hf
      have hle : max 32 M ≤ 16384 := by rw [hm]; split <;> omega
      have E1 := Lib.hid e1; have E2 := Lib.hid e2
      clear e1 e2 hm
      go_enter Try.func33, Try.ntmps33
      go_wp2
      go_ret2
      exact ⟨rIB E1.out.symm E2.out.symm, rfl⟩
    · have e1 : needS N = 0 := by unfold needS; rw [if_neg hf]
      have e2 : needOk N = false := decide_eq_false hf
      have hle : 16384 < max 32 M := by rw [hm]; split <;> omega
      have E1 := Lib.hid e1; have E2 := Lib.hid e2
      clear e1 e2 hm
      go_enter Try.func33, Try.ntmps33
      go_wp2
      go_ret2
      exact ⟨rIB E1.out.symm E2.out.symm, rfl⟩

theorem need_fin {n m : Int} (h0 : 0 ≤ n) (h1 : 32 ≤ m) (h2 : m % 16 = 0) (h3 : m = 32 ∨ m < n + 32) (h4 : ¬ m < n + 16) (h5 : n ≤ 16384) :
    (isSize m = needOk n) ∧ (needOk n = true → needS n = m) ∧ (needOk n = false → needS n = 0) := by
  refine ⟨?_, ?_, ?_⟩
  · rw [Bool.eq_iff_iff, isSize_iff]; unfold needOk; rw [decide_eq_true_iff]; omega
  · unfold needOk needS; rw [decide_eq_true_iff]; intro h; rw [if_pos h]; split <;> omega
  · unfold needOk needS; rw [decide_eq_false_iff_not]; intro h; rw [if_neg h]
set_option maxHeartbeats 1000000 in
theorem ref_Need (w : World) (n : Int) (h0 : 0 ≤ n) (h1 : n ≤ 18446744073709551615) :
    Calls Try.prog 34 #[.int .u64 n] w fun e w' => e = .returned (.tuple #[.int .i64 (needS n), .bool (needOk n)]) ∧ w = w' := by
  by_cases hb : 16384 < n
  · have e1 : needS n = 0 := by unfold needS; rw [if_neg (by omega)]
    have e2 : needOk n = false := decide_eq_false (by omega)
    have E1 := Lib.hid e1; have E2 := Lib.hid e2
    clear e1 e2
    go_enter Try.func34, Try.ntmps34
    go_wp2
    go_ret2
    exact ⟨rIB E1.out.symm E2.out.symm, rfl⟩
  · go_enter Try.func34, Try.ntmps34
    go_wp2
    go_loop [4] (fun v => ∃ m : Int, v = .int .i64 m ∧ 32 ≤ m ∧ m % 16 = 0 ∧ (m = 32 ∨ m < n + 32)) (fun v => (n + 64 - intOf v).toNat)
    case atStart => exact ⟨32, rfl, by omega, by omega, by omega⟩
    case round =>
      obtain ⟨m, rfl, m1, m2, m3⟩ := hrel
      by_cases hlt : m < n + 16
      · have M2 := Lib.hid m2; have M3 := Lib.hid m3
        have mb : m < n + 64 := by omega
        clear m2 m3
        go_wp2
        exact ⟨⟨m + 16, rfl, by omega, by have := M2.out; omega, by omega⟩, by simp [intOf]; omega⟩
      · obtain ⟨f1, f2, f3⟩ := need_fin h0 m1 m2 m3 hlt (by omega)
        have k := ref_IsSize w m
        rw [f1] at k
        have mb : m ≤ n + 32 := by omega
        cases hk : needOk n with
        | true =>
          rw [hk] at k
          have e1 := f2 hk
          have K := Lib.hid k; have E1 := Lib.hid e1; have HK := Lib.hid hk
          clear k e1 f1 f2 f3 hk m2 m3
          go_wp2_with fail
          with_reducible refine K.out.mono ?_
          rintro e w' ⟨rfl, rfl⟩
          go_wp2
          go_ret2
          exact ⟨rIB E1.out.symm HK.out.symm, rfl⟩
        | false =>
          rw [hk] at k
          have e1 := f3 hk
          have K := Lib.hid k; have E1 := Lib.hid e1; have HK := Lib.hid hk
          clear k e1 f1 f2 f3 hk m2 m3
          go_wp2_with fail
          with_reducible refine K.out.mono ?_
          rintro e w' ⟨rfl, rfl⟩
          go_wp2
          go_ret2
          exact ⟨rIB E1.out.symm HK.out.symm, rfl⟩
theorem bitLen_of {x k : Nat} (h1 : 2 ^ k ≤ x) (h2 : x < 2 ^ (k + 1)) (hk : k < 64) : Lib.bitLen x = k + 1 := by
  unfold Lib.bitLen
  have aux : ∀ (f k x : Nat), 2 ^ k ≤ x → x < 2 ^ (k + 1) → k < f → Lib.bitLenAux f x = k + 1 := by
    intro f
    induction f with
    | zero => intro k x _ _ h; omega
    | succ f ih =>
      intro k x h1 h2 hk
      have hp : 0 < 2 ^ k := Nat.pow_pos (by decide)
      unfold Lib.bitLenAux
      rw [if_neg (by omega)]
      cases k with
      | zero =>
        have : x = 1 := by simp at h1 h2; omega
        subst this
        cases f <;> simp [Lib.bitLenAux]
      | succ k =>
        rw [Nat.pow_succ] at h1 h2
        rw [ih k (x / 2) (by omega) (by omega) (by omega)]; omega
  exact aux 64 k x h1 h2 hk
theorem len_cls {s : Int} (h : isSize s = true) (h2 : 256 < s) : cls s = 6 + (Lib.bitLen s.toNat : Nat) := by
  refine cls_len h h2 _ ?_
  have hs := (isSize_iff s).1 h
  have key : ∀ k : Nat, k < 64 → (2 : Int) ^ k ≤ s → s < (2 : Int) ^ (k + 1) → ((Lib.bitLen s.toNat : Nat) : Int) = k + 1 := by
    intro k hk a b
    have e1 : ((2 : Int) ^ k) = ((2 ^ k : Nat) : Int) := by simp
    have e2 : ((2 : Int) ^ (k + 1)) = ((2 ^ (k + 1) : Nat) : Int) := by simp
    rw [e1] at a; rw [e2] at b
    rw [bitLen_of (k := k) (by omega) (by omega) hk]; simp
  by_cases a1 : s < 512
  · rw [if_pos a1, key 8 (by decide) (by omega) (by omega)]; rfl
  by_cases a2 : s < 1024
  · rw [if_neg a1, if_pos a2, key 9 (by decide) (by omega) (by omega)]; rfl
  by_cases a3 : s < 2048
  · rw [if_neg a1, if_neg a2, if_pos a3, key 10 (by decide) (by omega) (by omega)]; rfl
  by_cases a4 : s < 4096
  · rw [if_neg a1, if_neg a2, if_neg a3, if_pos a4, key 11 (by decide) (by omega) (by omega)]; rfl
  by_cases a5 : s < 8192
  · rw [if_neg a1, if_neg a2, if_neg a3, if_neg a4, if_pos a5, key 12 (by decide) (by omega) (by omega)]; rfl
  by_cases a6 : s < 16384
  · rw [if_neg a1, if_neg a2, if_neg a3, if_neg a4, if_neg a5, if_pos a6, key 13 (by decide) (by omega) (by omega)]; rfl
  · rw [if_neg a1, if_neg a2, if_neg a3, if_neg a4, if_neg a5, if_neg a6, key 14 (by decide) (by omega) (by omega)]; rfl
theorem class_Class (w : World) (s : Int) (h0 : -9223372036854775808 ≤ s) (h1 : s ≤ 9223372036854775807) :
    Calls Try.prog 35 #[.int .i64 s] w fun e w' => e = .returned (.int .i64 (cls s)) ∧ w = w' := by
  by_cases h : isSize s = true
  · obtain ⟨s1, s2, s3⟩ := (isSize_iff s).1 h
    have hne : (s % 16 != 0) = false := by rw [bne_eq_false_iff_eq]; exact s3
    by_cases hs : s ≤ 256
    · have ec : cls s = s / 16 - 2 := by unfold cls; rw [h]; simp only [if_true]; rw [if_pos hs]
      have EC := Lib.hid ec
      clear ec h s3
      go_enter Try.func35, Try.ntmps35
      go_wp2
      go_ret
      exact ⟨rI EC.out.symm, rfl⟩
    · have ec := len_cls h (by omega)
      have k := Try.bits_Len s w (by omega) (by omega)
      have hb : (Lib.bitLen s.toNat : Nat) ≤ 64 := by
        have := ec; unfold cls at this; rw [h] at this; simp only [if_true] at this
        repeat (split at this <;> try omega)
      have EC := Lib.hid ec; have K := Lib.hid k
      clear ec k h s3
      go_enter Try.func35, Try.ntmps35
      go_wp2_with fail
      refine K.out.mono ?_
      rintro e w' ⟨rfl, rfl⟩
      go_wp2
      go_ret
      exact ⟨rI EC.out.symm, rfl⟩
  · have ec : cls s = -1 := by unfold cls; rw [if_neg h]
    have hn : s < 32 ∨ 16384 < s ∨ (32 ≤ s ∧ s ≤ 16384 ∧ (s % 16 != 0) = true) := by
      have h4 : ¬ (32 ≤ s ∧ s ≤ 16384 ∧ s % 16 = 0) := fun hh => h (isSize_yes hh)
      rw [bne_iff_ne]; omega
    have EC := Lib.hid ec
    clear ec h
    rcases hn with hn | hn | ⟨a1, a2, a3⟩
    all_goals
      go_enter Try.func35, Try.ntmps35
      go_wp2
      go_ret
      exact ⟨rI EC.out.symm, rfl⟩

/-- What the reference's loop holds. -/
def ClsAt (s c t : Int) : Prop :=
  (c = 15 ∧ t = 512 ∧ 256 < s) ∨ (c = 16 ∧ t = 1024 ∧ 512 ≤ s) ∨ (c = 17 ∧ t = 2048 ∧ 1024 ≤ s) ∨ (c = 18 ∧ t = 4096 ∧ 2048 ≤ s) ∨ (c = 19 ∧ t = 8192 ∧ 4096 ≤ s) ∨ (c = 20 ∧ t = 16384 ∧ 8192 ≤ s) ∨ (c = 21 ∧ t = 32768 ∧ 16384 ≤ s)
theorem ClsAt.next {s c t : Int} (h : ClsAt s c t) (ht : t ≤ s) (hs : s ≤ 16384) : ClsAt s (c + 1) (2 * t) ∧ 512 ≤ t ∧ t ≤ 16384 ∧ 15 ≤ c ∧ c ≤ 20 := by
  rcases h with ⟨rfl, rfl, h⟩ | ⟨rfl, rfl, h⟩ | ⟨rfl, rfl, h⟩ | ⟨rfl, rfl, h⟩ | ⟨rfl, rfl, h⟩ | ⟨rfl, rfl, h⟩ | ⟨rfl, rfl, h⟩
  · exact ⟨.inr (.inl ⟨rfl, rfl, ht⟩), by omega⟩
  · exact ⟨.inr (.inr (.inl ⟨rfl, rfl, ht⟩)), by omega⟩
  · exact ⟨.inr (.inr (.inr (.inl ⟨rfl, rfl, ht⟩))), by omega⟩
  · exact ⟨.inr (.inr (.inr (.inr (.inl ⟨rfl, rfl, ht⟩)))), by omega⟩
  · exact ⟨.inr (.inr (.inr (.inr (.inr (.inl ⟨rfl, rfl, ht⟩))))), by omega⟩
  · exact ⟨.inr (.inr (.inr (.inr (.inr (.inr ⟨rfl, rfl, ht⟩))))), by omega⟩
  · omega
theorem ClsAt.done {s c t : Int} (h : ClsAt s c t) (ht : s < t) (h0 : isSize s = true) : cls s = c := by
  unfold cls
  rw [h0]
  simp only [if_true]
  have := (isSize_iff s).1 h0
  rcases h with ⟨rfl, rfl, h⟩ | ⟨rfl, rfl, h⟩ | ⟨rfl, rfl, h⟩ | ⟨rfl, rfl, h⟩ | ⟨rfl, rfl, h⟩ | ⟨rfl, rfl, h⟩ | ⟨rfl, rfl, h⟩
  all_goals (rw [if_neg (by omega)]; repeat (first | rw [if_pos (by omega)] | rw [if_neg (by omega)]))
set_option maxHeartbeats 1000000 in
theorem ref_Class (w : World) (s : Int) (h0 : -9223372036854775808 ≤ s) (h1 : s ≤ 9223372036854775807) :
    Calls Try.prog 36 #[.int .i64 s] w fun e w' => e = .returned (.int .i64 (cls s)) ∧ w = w' := by
  have k := ref_IsSize w s
  cases h : isSize s with
  | true =>
    rw [h] at k
    obtain ⟨s1, s2, s3⟩ := (isSize_iff s).1 h
    by_cases hs : s ≤ 256
    · have ec : cls s = s / 16 - 2 := by unfold cls; rw [h]; simp only [if_true]; rw [if_pos hs]
      have EC := Lib.hid ec; have K := Lib.hid k
      clear ec h s3 k
      go_enter Try.func36, Try.ntmps36
      go_wp2_with fail
      with_reducible refine K.out.mono ?_
      rintro e w' ⟨rfl, rfl⟩
      go_wp2
      go_ret
      exact ⟨rI EC.out.symm, rfl⟩
    · have HS := Lib.hid h; have K := Lib.hid k
      clear h s3 k
      go_enter Try.func36, Try.ntmps36
      go_wp2_with fail
      with_reducible refine K.out.mono ?_
      rintro e w' ⟨rfl, rfl⟩
      go_wp2
      go_loop [4, 5] (fun v x => ∃ c t : Int, v = .int .i64 c ∧ x = .int .i64 t ∧ ClsAt s c t) (fun v _ => (21 - intOf v).toNat)
      case atStart => exact ⟨15, 512, rfl, rfl, .inl ⟨rfl, rfl, by omega⟩⟩
      case round =>
        obtain ⟨c, t, rfl, rfl, hc⟩ := hrel
        by_cases hlt : t ≤ s
        · obtain ⟨n1, n2, n3, n4, n5⟩ := hc.next hlt s2
          clear hc
          go_wp2
          exact ⟨⟨c + 1, 2 * t, rfl, rfl, n1⟩, by simp [intOf]; omega⟩
        · have e := hc.done (by omega) HS.out
          have E := Lib.hid e
          clear e hc
          go_wp2
          go_ret
          exact ⟨rI E.out.symm, rfl⟩
  | false =>
    rw [h] at k
    have ec : cls s = -1 := by unfold cls; rw [h]; rfl
    have EC := Lib.hid ec; have K := Lib.hid k
    clear ec h k
    go_enter Try.func36, Try.ntmps36
    go_wp2_with fail
    with_reducible refine K.out.mono ?_
    rintro e w' ⟨rfl, rfl⟩
    go_wp2
    go_ret
    exact ⟨rI EC.out.symm, rfl⟩
end Go.Proofs.Ytibjcadingedaaa
