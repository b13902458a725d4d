import Derived.Test.YtjijniillehfoaaLDisk1
namespace Go.Proofs.Ytjijniillehfoaa
open Go Go.RowKit Go.Own
set_option linter.unusedVariables false
set_option maxRecDepth 100000
theorem bsOwn {w' : World} {n : Nat} {l : List UInt8} {v : Value} {B : Nat} (h : w'.ownsRow B 5 1 v n (l.map bv)) : ∃ a c, v = .slice a n c ∧ (∀ p, a = some p → B ≤ p.block) ∧ Bs w' a n c l := Sl.of_owned h
theorem bsOf {w' : World} {n m : Nat} {l : List UInt8} {v : Value} {B : Nat} (h : w'.ownsRow B 5 1 v n (l.map bv)) (hm : n = m) : ∃ a c, v = .slice a m c ∧ (∀ p, a = some p → B ≤ p.block) ∧ Bs w' a m c l := by subst hm; exact Sl.of_owned h
def secs7 : List (List UInt8) := [zsec, zsec]
theorem zeroL2 : zeroL 2 = secs7 := rfl
set_option maxHeartbeats 4000000 in
theorem up04 (w : World) : Calls Try.prog 26 #[] w fun e w' => e = .returned (.bool true) ∧ Below w.heap.size w w' := by
  go_enter Try.func26, Try.ntmps26
  go_wp2_with fail
  refine (disk_New w 2 2 rfl (by decide) (by decide)).mono ?_
  rintro e w1 ⟨p, rfl, h1, hp1, b1⟩
  rw [zeroL2] at h1
  have H1 := Lib.hid h1; have B1 := Lib.hid b1; have S1 := b1.size
  clear h1 b1
  go_wp2_with fail
  refine (law_Sector w1 7).mono ?_
  rintro e w2 ⟨v2, rfl, o2, b2⟩
  obtain ⟨a2, c2, rfl, _, hB2⟩ := bsOf o2 (secOf_len 7)
  have H2 := Lib.hid (H1.out.below b2); have B2 := Lib.hid (B1.out.trans (b2.mono B1.out.size))
  have HB2 := Lib.hid hB2
  clear o2 b2 hB2 H1 B1
  go_wp2_with fail
  refine (disk_Write_ok w2 p _ _ H2.out 1 1 rfl _ _ _ _ HB2.out (by decide) (secOf_len 7) rfl (by decide) (by decide)).mono ?_
  rintro e w3 ⟨rfl, F3, h3, k3, g3⟩
  have B3 := Lib.hid (B2.out.trans (k3.below B2.out.size fun k hk hf => by omega))
  have H3 := Lib.hid h3.tight
  have G3 := Lib.hid (show ∀ k, (F3 k ∧ k < w3.heap.size) → w.heap.size ≤ k from fun k hk => (g3 k hk.1).elim id fun h => Nat.le_trans B2.out.size h)
  clear h3 k3 g3 B2 H2 HB2
  go_wp2_with fail
  refine (disk_Read_ok w3 p _ _ H3.out 1 1 rfl (by decide) rfl (by decide)).mono ?_
  rintro e w4 ⟨v4, rfl, o4, b4⟩
  have hl4 : lastOf [(1, secOf 7)] 1 (secs7.getD 1 []) = secOf 7 := rfl
  have o4 : w4.ownsRow w3.heap.size 5 1 v4 (lastOf [(1, secOf 7)] 1 (secs7.getD 1 [])).length ((lastOf [(1, secOf 7)] 1 (secs7.getD 1 [])).map bv) := o4
  rw [hl4] at o4
  obtain ⟨a4, c4, rfl, ha4, hB4⟩ := bsOf o4 (secOf_len 7)
  have S4 := b4.size
  have H4 := Lib.hid (H3.out.below b4); have B4 := Lib.hid (B3.out.trans (b4.mono B3.out.size)); have HB4 := Lib.hid hB4; have HA4 := Lib.hid ha4
  clear o4 b4 hB4 ha4 H3 B3 hl4
  go_wp2_with fail
  have hT : Ts (w4.alloc (.cells #[.bool false] 4 (0, 0))) (some ⟨w4.heap.size, 0, none⟩) 1 1 [false] := Sl.lit w4 4 [.bool false] 1 1 rfl (by decide)
  have hb5 : Below w4.heap.size w4 (w4.alloc (.cells #[.bool false] 4 (0, 0))) := (Below.refl _ _).alloc (Nat.le_refl _) _
  generalize w4.alloc (.cells #[.bool false] 4 (0, 0)) = W5 at hT hb5 ⊢
  refine (disk_Boot W5 p _ _ (H4.out.below hb5) (by decide) _ 1 1 [false] hT (fun q hq _ hf => by cases hq; have := hf.2; simp at this; omega)).mono ?_
  rintro e w6 ⟨rfl, F6, h6, k6, g6⟩
  have H6 := Lib.hid h6
  have hB6 : Bs w6 a4 512 c4 (secOf 7) := (HB4.out.below hb5).keep k6 fun q hq hf => by have := HA4.out q hq; omega
  have B5 := B4.out.trans (hb5.mono B4.out.size)
  have B6 := Lib.hid (B5.trans (k6.below B5.size fun k hk hf => by have := G3.out k hf; omega))
  have HB6 := Lib.hid hB6
  clear h6 k6 g6 hB6 B5 hb5 hT H4 B4 HB4
  go_wp2_with fail
  have hD6 : ({ L := secs7, wait := [] ++ [(1, secOf 7)], off := false, left := if (0 : Int) < -1 then -1 - 1 else -1 } : Dk).boot [false] = ⟨secs7, [], false, -1⟩ := rfl
  refine (disk_Read_ok w6 p ⟨secs7, [], false, -1⟩ _ (hD6 ▸ H6.out) 1 1 rfl (by decide) rfl (by decide)).mono ?_
  rintro e w7 ⟨v7, rfl, o7, b7⟩
  have o7 : w7.ownsRow w6.heap.size 5 1 v7 (secOf 0).length ((secOf 0).map bv) := o7
  obtain ⟨a7, c7, rfl, _, hB7⟩ := bsOf o7 (secOf_len 0)
  have hBx := (HB6.out.below b7).drew
  have hBy := hB7.drew
  have B7 := Lib.hid (B6.out.trans (b7.mono B6.out.size))
  clear o7 b7 hB7 H6 B6 HB6 hD6
  go_wp2_with fail
  refine flowe_begin (F := fun _ => False) hmixed 29 rfl (by repeat (first | exact ps_body | refine ps_then ?_ | refine ps_block ?_)) (fun hps => ?_)
  simp only [List.replicate]
  have kk := (Keep.refl (fun _ => False) (w7)).drew
  refine flowe_take 0 (v := ?_) (a' := ?_) hps rfl (by kernel_rfl) rfl ?_ ?_ ?_
  rotate_left 2
  · intro w' hk; go_simp; try rfl
  · simp only [Act.put, List.setIfInBounds_toArray, List.set_cons_succ, List.set_cons_zero]; try rfl
  refine flowe_take 1 (v := ?_) (a' := ?_) hps rfl (by kernel_rfl) rfl ?_ ?_ ?_
  rotate_left 2
  · intro w' hk; go_simp; try rfl
  · simp only [Act.put, List.setIfInBounds_toArray, List.set_cons_succ, List.set_cons_zero]; try rfl
  refine flowe_take 2 (v := ?_) (a' := ?_) hps rfl (by kernel_rfl) rfl ?_ ?_ ?_
  rotate_left 2
  · intro w' hk; go_simp; try rfl
  · simp only [Act.put, List.setIfInBounds_toArray, List.set_cons_succ, List.set_cons_zero]; try rfl
  refine flowe_take 3 (v := ?_) (a' := ?_) hps rfl (by kernel_rfl) rfl ?_ ?_ ?_
  rotate_left 2
  · intro w' hk; go_simp; try rfl
  · simp only [Act.put, List.setIfInBounds_toArray, List.set_cons_succ, List.set_cons_zero]; try rfl
  refine flowe_take 4 (v := ?_) (a' := ?_) hps rfl (by kernel_rfl) rfl ?_ ?_ ?_
  rotate_left 2
  · intro w' hk; go_simp; try rfl
  · simp only [Act.put, List.setIfInBounds_toArray, List.set_cons_succ, List.set_cons_zero]; try rfl
  refine flowe_take 5 (v := ?_) (a' := ?_) hps rfl (by kernel_rfl) rfl ?_ ?_ ?_
  rotate_left 2
  · intro w' hk; go_simp; try rfl
  · simp only [Act.put, List.setIfInBounds_toArray, List.set_cons_succ, List.set_cons_zero]; try rfl
  refine flowe_take 6 (v := ?_) (a' := ?_) hps rfl (by kernel_rfl) rfl ?_ ?_ ?_
  rotate_left 2
  · intro w' hk; go_simp; try rfl
  · simp only [Act.put, List.setIfInBounds_toArray, List.set_cons_succ, List.set_cons_zero]; try rfl
  refine flowe_take 7 (v := ?_) (a' := ?_) hps rfl (by kernel_rfl) rfl ?_ ?_ ?_
  rotate_left 2
  · intro w' hk; go_simp; try rfl
  · simp only [Act.put, List.setIfInBounds_toArray, List.set_cons_succ, List.set_cons_zero]; try rfl
  refine flowe_take 8 (v := ?_) (a' := ?_) hps rfl (by kernel_rfl) rfl ?_ ?_ ?_
  rotate_left 2
  · intro w' hk; go_simp; try rfl
  · simp only [Act.put, List.setIfInBounds_toArray, List.set_cons_succ, List.set_cons_zero]; try rfl
  refine flowe_take 9 (v := ?_) (a' := ?_) hps rfl (by kernel_rfl) rfl ?_ ?_ ?_
  rotate_left 2
  · intro w' hk; go_simp; try rfl
  · simp only [Act.put, List.setIfInBounds_toArray, List.set_cons_succ, List.set_cons_zero]; try rfl
  refine flowe_take 10 (v := ?_) (a' := ?_) hps rfl (by kernel_rfl) rfl ?_ ?_ ?_
  rotate_left 2
  · intro w' hk; go_simp; try rfl
  · simp only [Act.put, List.setIfInBounds_toArray, List.set_cons_succ, List.set_cons_zero]; try rfl
  refine flowe_take 11 (v := ?_) (a' := ?_) hps rfl (by kernel_rfl) rfl ?_ ?_ ?_
  rotate_left 2
  · intro w' hk; go_simp; try rfl
  · simp only [Act.put, List.setIfInBounds_toArray, List.set_cons_succ, List.set_cons_zero]; try rfl
  refine flowe_take 12 (v := ?_) (a' := ?_) hps rfl (by kernel_rfl) rfl ?_ ?_ ?_
  rotate_left 2
  · intro w' hk; have hs := run_s w' (hBx.keep hk (fun _ _ h => h)); go_simp; try rfl
  · simp only [Act.put, List.setIfInBounds_toArray, List.set_cons_succ, List.set_cons_zero]; try rfl
  refine flowe_one 13 hps rfl (by kernel_rfl) rfl (wp_next (fun K hK => ?_))
  go_simp
  go_at_call 30
  refine (law_Sector _ 7).mono ?_
  rintro e w8 ⟨v8, rfl, o8, b8⟩
  obtain ⟨a8, c8, rfl, _, hB8⟩ := bsOf o8 (secOf_len 7)
  have hBy8 := hBy.below b8
  have kp := Keep.of_below (F := fun _ => False) b8
  clear o8 b8
  refine hK _ _ (flow_step kk ?_ ?_)
  · first | exact kp | exact Keep.refl _ _ | exact (Keep.refl _ _).alloc _
  clear kk hK; try clear kp
  intro kk
  refine flowe_take 14 (v := ?_) (a' := ?_) hps rfl (by kernel_rfl) rfl ?_ ?_ ?_
  rotate_left 2
  · intro w' hk; have hs := run_s w' (hB8.keep hk (fun _ _ h => h)); go_simp; try rfl
  · simp only [Act.put, List.setIfInBounds_toArray, List.set_cons_succ, List.set_cons_zero]; try rfl
  refine flowe_take 15 (v := ?_) (a' := ?_) hps rfl (by kernel_rfl) rfl ?_ ?_ ?_
  rotate_left 2
  · intro w' hk; go_simp; try rfl
  · simp only [Act.put, List.setIfInBounds_toArray, List.set_cons_succ, List.set_cons_zero]; try rfl
  refine flowe_take 16 (v := ?_) (a' := ?_) hps rfl (by kernel_rfl) rfl ?_ ?_ ?_
  rotate_left 2
  · intro w' hk; go_simp; try rfl
  · simp only [Act.put, List.setIfInBounds_toArray, List.set_cons_succ, List.set_cons_zero]; try rfl
  refine flowe_take 17 (v := ?_) (a' := ?_) hps rfl (by kernel_rfl) rfl ?_ ?_ ?_
  rotate_left 2
  · intro w' hk; go_simp; try rfl
  · simp only [Act.put, List.setIfInBounds_toArray, List.set_cons_succ, List.set_cons_zero]; try rfl
  refine flowe_take 18 (v := ?_) (a' := ?_) hps rfl (by kernel_rfl) rfl ?_ ?_ ?_
  rotate_left 2
  · intro w' hk; go_simp; try rfl
  · simp only [Act.put, List.setIfInBounds_toArray, List.set_cons_succ, List.set_cons_zero]; try rfl
  refine flowe_take 19 (v := ?_) (a' := ?_) hps rfl (by kernel_rfl) rfl ?_ ?_ ?_
  rotate_left 2
  · intro w' hk; have hs := run_s w' (hBy8.keep hk (fun _ _ h => h)); go_simp; try rfl
  · simp only [Act.put, List.setIfInBounds_toArray, List.set_cons_succ, List.set_cons_zero]; try rfl
  refine flowe_one 20 hps rfl (by kernel_rfl) rfl (wp_next (fun K hK => ?_))
  go_simp
  go_at_call 30
  refine (law_Sector _ 0).mono ?_
  rintro e w9 ⟨v9, rfl, o9, b9⟩
  obtain ⟨a9, c9, rfl, _, hB9⟩ := bsOf o9 (secOf_len 0)
  have kp := Keep.of_below (F := fun _ => False) b9
  clear o9 b9
  refine hK _ _ (flow_step kk ?_ ?_)
  · first | exact kp | exact Keep.refl _ _ | exact (Keep.refl _ _).alloc _
  clear kk hK; try clear kp
  intro kk
  refine flowe_take 21 (v := ?_) (a' := ?_) hps rfl (by kernel_rfl) rfl ?_ ?_ ?_
  rotate_left 2
  · intro w' hk; have hs := run_s w' (hB9.keep hk (fun _ _ h => h)); go_simp; try rfl
  · simp only [Act.put, List.setIfInBounds_toArray, List.set_cons_succ, List.set_cons_zero]; try rfl
  refine flowe_take 22 (v := ?_) (a' := ?_) hps rfl (by kernel_rfl) rfl ?_ ?_ ?_
  rotate_left 2
  · intro w' hk; go_simp; try rfl
  · simp only [Act.put, List.setIfInBounds_toArray, List.set_cons_succ, List.set_cons_zero]; try rfl
  refine flowe_take 23 (v := ?_) (a' := ?_) hps rfl (by kernel_rfl) rfl ?_ ?_ ?_
  rotate_left 2
  · intro w' hk; go_simp; try rfl
  · simp only [Act.put, List.setIfInBounds_toArray, List.set_cons_succ, List.set_cons_zero]; try rfl
  refine flowe_take 24 (v := ?_) (a' := ?_) hps rfl (by kernel_rfl) rfl ?_ ?_ ?_
  rotate_left 2
  · intro w' hk; go_simp; try rfl
  · simp only [Act.put, List.setIfInBounds_toArray, List.set_cons_succ, List.set_cons_zero]; try rfl
  refine flowe_one 25 hps rfl (by kernel_rfl) rfl (wp_next (fun K hK => ?_))
  go_simp
  go_at_call 27
  refine (disk_New_none _ 1 (by decide)).mono ?_
  rintro e w' ⟨rfl, rfl⟩
  refine hK _ _ (flow_step kk ?_ ?_)
  · first | exact kp | exact Keep.refl _ _ | exact (Keep.refl _ _).alloc _
  clear kk hK; try clear kp
  intro kk
  refine flowe_take 26 (v := ?_) (a' := ?_) hps rfl (by kernel_rfl) rfl ?_ ?_ ?_
  rotate_left 2
  · intro w' hk; go_simp; try rfl
  · simp only [Act.put, List.setIfInBounds_toArray, List.set_cons_succ, List.set_cons_zero]; try rfl
  refine flowe_take 27 (v := ?_) (a' := ?_) hps rfl (by kernel_rfl) rfl ?_ ?_ ?_
  rotate_left 2
  · intro w' hk; go_simp; try rfl
  · simp only [Act.put, List.setIfInBounds_toArray, List.set_cons_succ, List.set_cons_zero]; try rfl
  refine flowe_take 28 (v := ?_) (a' := ?_) hps rfl (by kernel_rfl) rfl ?_ ?_ ?_
  rotate_left 2
  · intro w' hk; go_simp; try rfl
  · simp only [Act.put, List.setIfInBounds_toArray, List.set_cons_succ, List.set_cons_zero]; try rfl
  refine flowe_done hps (by kernel_rfl) ?_
  go_wp2
  go_ret
  exact ⟨rB (by simp), B7.out.trans (kk.below B7.out.size fun _ _ h => h)⟩
end Go.Proofs.Ytjijniillehfoaa
