/- Layer 5: what is written comes back. -/
import Derived.Test.YtjijniillehfoaaLExt
namespace Go.Own
theorem secsN_512 (n : Nat) : secsN (512 * n) = n := by
  unfold secsN
  rw [if_pos (by omega)]; omega
end Go.Own
namespace Go.Proofs.Ytjijniillehfoaa
open Go Go.RowKit Go.Own
set_option linter.unusedVariables false
set_option maxRecDepth 100000
theorem bs_lowE {w : World} {a : Option Addr} {n c : Nat} {b : List UInt8} (h : Bs w a n c b) : ∀ q, a = some q → 0 < b.length → q.block < w.heap.size := by
  intro q hq h0
  obtain ⟨b', o, e, hc⟩ := h.at 0 h0
  rw [hq] at e; cases e
  exact World.block_lt_of_cell? w _ hc
theorem mk_bs (w : World) (m : Int) (n : Nat) (hm : m = n) (hn : n ≤ 281474976710656) :
    ∃ g W, (Instr.makeSlice 31 (.int .i64 m) (.int .i64 m)).run Try.prog w = .ok (.slice (some ⟨g, 0, none⟩) n n) W ∧ Bs W (some ⟨g, 0, none⟩) n n (List.replicate n 0) ∧ Below w.heap.size w W :=
  ⟨_, _, mkBytes w m n hm hn, mkBs w n (by omega), (Below.refl _ _).alloc (Nat.le_refl _) _⟩
set_option maxHeartbeats 8000000 in
theorem extentBack (w : World) (sec at_ : Int) (a : Option Addr) (n c : Nat) (b : List UInt8) (fl : Bool) (hs : (Lit.int .i64 sec).wf = true) (hat : (Lit.int .i64 at_).wf = true) (hb : Bs w a n c b) :
    Calls Try.prog 7 #[.int .i64 sec, .int .i64 at_, .slice a n c, .bool fl] w (lawOk w) := by
  obtain ⟨s0, s1⟩ := wfI64 hs
  obtain ⟨a0, a1⟩ := wfI64 hat
  have hn := hb.len
  subst hn
  have p1 := Sl.cap hb; have r1 := Sl.room hb
  have HB := Lib.hid hb
  clear hs hat hb
  go_enter Try.func7, Try.ntmps7
  go_wp2_with fail
  refine (up05 w).mono ?_
  rintro e w1 ⟨rfl, bw1⟩
  have T1 := Lib.hid ((St.start w).below bw1)
  clear bw1
  by_cases hs : 2 ≤ sec ∧ sec ≤ 128
  · obtain ⟨g1, g2⟩ := hs
    obtain ⟨sn, rfl⟩ := Int.eq_ofNat_of_zero_le (show 0 ≤ sec by omega)
    have hd1 : decide ((sn : Int) < 2) = false := by rw [decide_eq_false_iff_not]; omega
    have hd2 : decide ((128 : Int) < sn) = false := by rw [decide_eq_false_iff_not]; omega
    go_wp2_with fail
    have kc := dk_New T1.out (sn : Int) sn rfl (by omega) (by omega)
    with_reducible refine kc.mono ?_
    clear kc
    rintro e w2 ⟨q, rfl, t2⟩
    have t2 : St w.heap.size w w2 (DkO q (zdk sn) :: []) := t2
    by_cases hl1 : b.length > 70000
    · have B2 := Lib.hid t2.end
      clear t2 T1
      go_wp2
      go_ret
      exact ⟨rfl, B2.out⟩
    have hzl : (zdk sn).L.length = sn := by unfold zdk; rw [List.length_replicate]
    have kc := extent_Write t2 (i := 0) rfl at_ a0 a1 a _ c b (fun w' D' h => h.bs HB.out (bs_lowE HB.out)) (by show 0 ≤ 500000; decide) (by omega)
    by_cases hmay : 0 ≤ at_ ∧ at_ + secsN b.length ≤ (sn : Int)
    · obtain ⟨m1, m2⟩ := hmay
      obtain ⟨A, rfl⟩ := Int.eq_ofNat_of_zero_le m1
      have m3 : A + secsN b.length ≤ sn := by omega
      rw [Dk.out_on (D := zdk sn) ⟨rfl, rfl⟩ A b _ rfl (by rw [hzl]; exact m3), errN_0] at kc
      have HMAY := Lib.hid m3
      have hA128 : A ≤ 128 := by omega
      go_wp2_with fail
      with_reducible refine kc.mono ?_
      clear kc
      rintro e w3 ⟨rfl, t3⟩
      have t3 : St w.heap.size w w3 (DkO q { zdk sn with wait := outW A (secsN b.length) b } :: []) := t3
      obtain ⟨r1, r2, r3⟩ := back_secs sn A b _ rfl m3 (outW A (secsN b.length) b) rfl
      have r6 : (outW A (secsN b.length) b).length ≤ 1000 := by rw [outW_len]; omega
      have T1' := T1
      clear t2 T1 m1 m2 m3
      cases fl
      · obtain ⟨D2, hD2⟩ : ∃ D2 : Dk, D2 = { zdk sn with wait := outW A (secsN b.length) b } := ⟨_, rfl⟩
        have r4 : D2.off = false := by rw [hD2]; rfl
        have r5 : D2.L.length = sn := by rw [hD2]; exact hzl
        have r6 : D2.wait.length ≤ 1000 := by rw [hD2]; exact r6
        rw [← hD2] at r1 r2 r3 t3
        have t4 := t3
        clear hD2 t3 hzl T1'
        have HR1 := Lib.hid r1; have HR2 := Lib.hid r2; have HR3 := Lib.hid r3; have HR4 := Lib.hid r4; have HR5 := Lib.hid r5; have HR6 := Lib.hid r6
        clear r1 r2 r3 r4 r5 r6
        have kc := extent_Read t4 (i := 0) rfl (A : Int) (b.length : Int) (by have := HR6.out; omega) (by omega)
        rw [show D2.inp (A : Int) (b.length : Int) = (0, b) by rw [Dk.inp_on HR4.out A b.length (by rw [HR5.out]; exact HMAY.out), HR1.out], errN_0] at kc
        go_wp2_with fail
        with_reducible refine kc.mono ?_
        clear kc
        rintro e w5 ⟨v5, rfl, t5⟩
        have t5 : St w.heap.size w w5 (OwB v5 b :: DkO q D2 :: []) := t5
        have kc := extent_Read t5 (i := 1) rfl 0 (512 * (A : Int)) (by have := HR6.out; omega) (by omega)
        rw [show D2.inp 0 (512 * (A : Int)) = (0, List.replicate (512 * A) 0) by
          have := Dk.inp_on HR4.out 0 (512 * A) (by rw [secsN_512, HR5.out]; have := HMAY.out; omega)
          rw [secsN_512, HR2.out, List.take_of_length_le (by simp)] at this
          rw [← this]; congr 1, errN_0] at kc
        have T5 := Lib.hid t5
        clear t4 t5
        go_wp2_with fail
        with_reducible refine kc.mono ?_
        clear kc
        rintro e w6 ⟨v6, rfl, t6⟩
        have t6 : St w.heap.size w w6 (OwB v6 (List.replicate (512 * A) 0) :: OwB v5 b :: DkO q D2 :: []) := t6
        have T6 := Lib.hid t6
        clear t6 T5
        go_wp2_with fail
        with_reducible refine (ref_Sectors _ b.length b.length rfl (by omega)).mono ?_
        rintro e w' ⟨rfl, rfl⟩
        have hk128 : secsN b.length ≤ 128 := by have := HMAY.out; omega
        have kc := extent_Read T6.out (i := 2) rfl ((A : Int) + (secsN b.length : Nat)) (512 * ((sn : Int) - ((A : Int) + (secsN b.length : Nat)))) (by have := HR6.out; omega) (by omega)
        rw [show D2.inp ((A : Int) + (secsN b.length : Nat)) (512 * ((sn : Int) - ((A : Int) + (secsN b.length : Nat)))) = (0, List.replicate (512 * (sn - (A + secsN b.length))) 0) by
          have := Dk.inp_on HR4.out (A + secsN b.length) (512 * (sn - (A + secsN b.length))) (by rw [secsN_512, HR5.out]; have := HMAY.out; omega)
          rw [secsN_512, HR3.out, List.take_of_length_le (by simp)] at this
          rw [← this]; congr 1; have := HMAY.out; omega, errN_0] at kc
        go_wp2_with fail
        with_reducible refine kc.mono ?_
        clear kc
        rintro e w7 ⟨v7, rfl, t7⟩
        have t7 : St w.heap.size w w7 (OwB v7 (List.replicate (512 * (sn - (A + secsN b.length))) 0) :: OwB v6 (List.replicate (512 * A) 0) :: OwB v5 b :: DkO q D2 :: []) := t7
        obtain ⟨a5, c5, rfl, hb5⟩ := t7.bsOwn (i := 2) rfl
        obtain ⟨a6, c6, rfl, hb6⟩ := t7.bsOwn (i := 1) rfl
        obtain ⟨a7, c7, rfl, hb7⟩ := t7.bsOwn (i := 0) rfl
        clear hb6 hb7
        have hs5 := run_s w7 hb5
        have hs0 := run_s w7 (t7.bs HB.out (bs_lowE HB.out))
        have hb6 := t7.drew.bsV (i := 1) rfl; have hb7 := t7.drew.bsV (i := 0) rfl
        rw [List.length_replicate] at hb6 hb7
        have HB6 := Lib.hid hb6; have HB7 := Lib.hid hb7
        have T7 := Lib.hid t7
        obtain ⟨N6, hN6⟩ : ∃ N, N = 512 * A := ⟨_, rfl⟩
        obtain ⟨N7, hN7⟩ : ∃ N, N = 512 * (sn - (A + secsN b.length)) := ⟨_, rfl⟩
        rw [← hN6] at HB6
        rw [← hN7] at HB7
        have e6 : 512 * (A : Int) = (N6 : Int) := by omega
        have e7 : 512 * ((sn : Int) - ((A : Int) + (secsN b.length : Nat))) = (N7 : Int) := by have := HMAY.out; omega
        have w6' : IntKind.i64.wrap (512 * (A : Int)) = (N6 : Int) := by rw [e6]; exact IntWalk.i64_in _ (by omega)
        have w7' : IntKind.i64.wrap ((sn : Int) - ((A : Int) + (secsN b.length : Nat))) = (sn : Int) - ((A : Int) + (secsN b.length : Nat)) := IntWalk.i64_in _ (by have := HMAY.out; omega)
        have w8' : IntKind.i64.wrap (512 * ((sn : Int) - ((A : Int) + (secsN b.length : Nat)))) = (N7 : Int) := by rw [e7]; exact IntWalk.i64_in _ (by omega)
        have HE := Lib.hid (And.intro e6 (And.intro e7 (And.intro hN6 hN7)))
        have l6 : N6 ≤ 281474976710656 := by omega
        have l7 : N7 ≤ 281474976710656 := by omega
        rw [List.length_replicate, List.length_replicate, ← hN6, ← hN7]
        clear e6 e7 hb5 hb6 hb7 t7 T6 hN6 hN7
        go_wp2
        clear hs5 hs0
        refine flowe_begin (F := fun _ => False) hmixed 22 rfl (by repeat (first | exact ps_body | refine ps_then ?_ | refine ps_block ?_)) (fun hps => ?_)
        simp only [List.replicate]
        have kk := (Keep.refl (fun _ => False) (w7)).drew
        refine flowe_take 0 (v := ?_) (a' := ?_) hps rfl (by kernel_rfl) rfl ?_ ?_ ?_
        rotate_left 2
        · intro w' hk; go_simp; try rfl
        · simp only [Act.put, List.setIfInBounds_toArray, List.set_cons_succ, List.set_cons_zero]; try rfl
        refine flowe_take 1 (v := ?_) (a' := ?_) hps rfl (by kernel_rfl) rfl ?_ ?_ ?_
        rotate_left 2
        · intro w' hk; go_simp; try rfl
        · simp only [Act.put, List.setIfInBounds_toArray, List.set_cons_succ, List.set_cons_zero]; try rfl
        refine flowe_take 2 (v := ?_) (a' := ?_) hps rfl (by kernel_rfl) rfl ?_ ?_ ?_
        rotate_left 2
        · intro w' hk; go_simp; try rfl
        · simp only [Act.put, List.setIfInBounds_toArray, List.set_cons_succ, List.set_cons_zero]; try rfl
        refine flowe_take 3 (v := ?_) (a' := ?_) hps rfl (by kernel_rfl) rfl ?_ ?_ ?_
        rotate_left 2
        · intro w' hk; have hs := run_s w' (HB6.out.keep hk (fun _ _ h => h)); go_simp; try rfl
        · simp only [Act.put, List.setIfInBounds_toArray, List.set_cons_succ, List.set_cons_zero]; try rfl
        refine flowe_take 4 (v := ?_) (a' := ?_) hps rfl (by kernel_rfl) rfl ?_ ?_ ?_
        rotate_left 2
        · intro w' hk; go_simp; try rfl
        · simp only [Act.put, List.setIfInBounds_toArray, List.set_cons_succ, List.set_cons_zero]; try rfl
        refine flowe_take 5 (v := ?_) (a' := ?_) hps rfl (by kernel_rfl) rfl ?_ ?_ ?_
        rotate_left 2
        · intro w' hk; go_simp; try rfl
        · simp only [Act.put, List.setIfInBounds_toArray, List.set_cons_succ, List.set_cons_zero]; try rfl
        refine flowe_one 6 hps rfl (by kernel_rfl) rfl (wp_next (fun K hK => ?_))
        obtain ⟨g8, W8, hmk, hb8, kb8⟩ := mk_bs w7.drew (N6 : Int) N6 rfl l6
        go_simp
        have HB8 := Lib.hid hb8
        have HB7 := Lib.hid (HB7.out.below kb8)
        have kp := Keep.of_below (F := fun _ => False) kb8
        clear hmk hb8 kb8
        refine hK _ _ (flow_step kk ?_ ?_)
        · first | exact kp | exact Keep.refl _ _ | exact (Keep.refl _ _).alloc _
        clear kk hK; try clear kp
        intro kk
        refine flowe_take 7 (v := ?_) (a' := ?_) hps rfl (by kernel_rfl) rfl ?_ ?_ ?_
        rotate_left 2
        · intro w' hk; have hs := run_s w' (HB8.out.keep hk (fun _ _ h => h)); go_simp; try rfl
        · simp only [Act.put, List.setIfInBounds_toArray, List.set_cons_succ, List.set_cons_zero]; try rfl
        refine flowe_take 8 (v := ?_) (a' := ?_) hps rfl (by kernel_rfl) rfl ?_ ?_ ?_
        rotate_left 2
        · intro w' hk; go_simp; try rfl
        · simp only [Act.put, List.setIfInBounds_toArray, List.set_cons_succ, List.set_cons_zero]; try rfl
        refine flowe_take 9 (v := ?_) (a' := ?_) hps rfl (by kernel_rfl) rfl ?_ ?_ ?_
        rotate_left 2
        · intro w' hk; go_simp; try rfl
        · simp only [Act.put, List.setIfInBounds_toArray, List.set_cons_succ, List.set_cons_zero]; try rfl
        refine flowe_take 10 (v := ?_) (a' := ?_) hps rfl (by kernel_rfl) rfl ?_ ?_ ?_
        rotate_left 2
        · intro w' hk; go_simp; try rfl
        · simp only [Act.put, List.setIfInBounds_toArray, List.set_cons_succ, List.set_cons_zero]; try rfl
        refine flowe_take 11 (v := ?_) (a' := ?_) hps rfl (by kernel_rfl) rfl ?_ ?_ ?_
        rotate_left 2
        · intro w' hk; go_simp; try rfl
        · simp only [Act.put, List.setIfInBounds_toArray, List.set_cons_succ, List.set_cons_zero]; try rfl
        refine flowe_take 12 (v := ?_) (a' := ?_) hps rfl (by kernel_rfl) rfl ?_ ?_ ?_
        rotate_left 2
        · intro w' hk; have hs := run_s w' (HB7.out.keep hk (fun _ _ h => h)); go_simp; try rfl
        · simp only [Act.put, List.setIfInBounds_toArray, List.set_cons_succ, List.set_cons_zero]; try rfl
        refine flowe_take 13 (v := ?_) (a' := ?_) hps rfl (by kernel_rfl) rfl ?_ ?_ ?_
        rotate_left 2
        · intro w' hk; go_simp; try rfl
        · simp only [Act.put, List.setIfInBounds_toArray, List.set_cons_succ, List.set_cons_zero]; try rfl
        refine flowe_take 14 (v := ?_) (a' := ?_) hps rfl (by kernel_rfl) rfl ?_ ?_ ?_
        rotate_left 2
        · intro w' hk; go_simp; try rfl
        · simp only [Act.put, List.setIfInBounds_toArray, List.set_cons_succ, List.set_cons_zero]; try rfl
        refine flowe_take 15 (v := ?_) (a' := ?_) hps rfl (by kernel_rfl) rfl ?_ ?_ ?_
        rotate_left 2
        · intro w' hk; go_simp; try rfl
        · simp only [Act.put, List.setIfInBounds_toArray, List.set_cons_succ, List.set_cons_zero]; try rfl
        refine flowe_take 16 (v := ?_) (a' := ?_) hps rfl (by kernel_rfl) rfl ?_ ?_ ?_
        rotate_left 2
        · intro w' hk; go_simp; try rfl
        · simp only [Act.put, List.setIfInBounds_toArray, List.set_cons_succ, List.set_cons_zero]; try rfl
        refine flowe_one 17 hps rfl (by kernel_rfl) rfl (wp_next (fun K hK => ?_))
        obtain ⟨g9, W9, hmk, hb9, kb9⟩ := mk_bs W8 (N7 : Int) N7 rfl l7
        go_simp
        have HB9 := Lib.hid hb9
        have kp := Keep.of_below (F := fun _ => False) kb9
        clear hmk hb9 kb9
        refine hK _ _ (flow_step kk ?_ ?_)
        · first | exact kp | exact Keep.refl _ _ | exact (Keep.refl _ _).alloc _
        clear kk hK; try clear kp
        intro kk
        refine flowe_take 18 (v := ?_) (a' := ?_) hps rfl (by kernel_rfl) rfl ?_ ?_ ?_
        rotate_left 2
        · intro w' hk; have hs := run_s w' (HB9.out.keep hk (fun _ _ h => h)); go_simp; try rfl
        · simp only [Act.put, List.setIfInBounds_toArray, List.set_cons_succ, List.set_cons_zero]; try rfl
        refine flowe_take 19 (v := ?_) (a' := ?_) hps rfl (by kernel_rfl) rfl ?_ ?_ ?_
        rotate_left 2
        · intro w' hk; go_simp; try rfl
        · simp only [Act.put, List.setIfInBounds_toArray, List.set_cons_succ, List.set_cons_zero]; try rfl
        refine flowe_take 20 (v := ?_) (a' := ?_) hps rfl (by kernel_rfl) rfl ?_ ?_ ?_
        rotate_left 2
        · intro w' hk; go_simp; try rfl
        · simp only [Act.put, List.setIfInBounds_toArray, List.set_cons_succ, List.set_cons_zero]; try rfl
        refine flowe_take 21 (v := ?_) (a' := ?_) hps rfl (by kernel_rfl) rfl ?_ ?_ ?_
        rotate_left 2
        · intro w' hk; go_simp; try rfl
        · simp only [Act.put, List.setIfInBounds_toArray, List.set_cons_succ, List.set_cons_zero]; try rfl
        refine flowe_done hps (by kernel_rfl) ?_
        have BZ := Lib.hid (T7.out.below (kk.below (Nat.le_refl _) fun _ _ h => h)).end
        clear kk
        go_wp2
        go_ret
        exact ⟨rfl, BZ.out⟩
      · have hg := dk_good t3 (i := 0) rfl
        have kc := dk_Flush t3 (i := 0) rfl (by show (outW A (secsN b.length) b).length ≤ 1000000; omega)
        have hfl : Dk.flush { zdk sn with wait := outW A (secsN b.length) b } = (0, ({ zdk sn with wait := outW A (secsN b.length) b } : Dk).stand fun _ => true) := by
          unfold Dk.flush; rw [if_neg (by show ¬ (false = true); decide)]
        rw [hfl, errN_0] at kc
        go_wp2_with fail
        with_reducible refine kc.mono ?_
        clear kc
        rintro e w4 ⟨rfl, t4⟩
        rw [← Dk.secsAt_stand hg _ _ (by show _ ≤ (zdk sn).L.length; rw [hzl]; have := HMAY.out; omega)] at r1 r2 r3
        obtain ⟨D2, hD2⟩ : ∃ D2 : Dk, D2 = ({ zdk sn with wait := outW A (secsN b.length) b } : Dk).stand fun _ => true := ⟨_, rfl⟩
        have r4 : D2.off = false := by rw [hD2]; rfl
        have r5 : D2.L.length = sn := by
          rw [hD2]; unfold Dk.stand
          rw [(standL_secs _ _ _ _ hg.secs hg.waits).2]; exact hzl
        have r6 : D2.wait.length ≤ 1000 := by rw [hD2]; exact Nat.zero_le _
        rw [← hD2] at r1 r2 r3
        have t4 : St w.heap.size w w4 (DkO q D2 :: []) := by rw [hD2]; exact t4
        clear hD2 hzl T1' hfl hg t3
        have HR1 := Lib.hid r1; have HR2 := Lib.hid r2; have HR3 := Lib.hid r3; have HR4 := Lib.hid r4; have HR5 := Lib.hid r5; have HR6 := Lib.hid r6
        clear r1 r2 r3 r4 r5 r6
        have kc := extent_Read t4 (i := 0) rfl (A : Int) (b.length : Int) (by have := HR6.out; omega) (by omega)
        rw [show D2.inp (A : Int) (b.length : Int) = (0, b) by rw [Dk.inp_on HR4.out A b.length (by rw [HR5.out]; exact HMAY.out), HR1.out], errN_0] at kc
        go_wp2_with fail
        with_reducible refine kc.mono ?_
        clear kc
        rintro e w5 ⟨v5, rfl, t5⟩
        have t5 : St w.heap.size w w5 (OwB v5 b :: DkO q D2 :: []) := t5
        have kc := extent_Read t5 (i := 1) rfl 0 (512 * (A : Int)) (by have := HR6.out; omega) (by omega)
        rw [show D2.inp 0 (512 * (A : Int)) = (0, List.replicate (512 * A) 0) by
          have := Dk.inp_on HR4.out 0 (512 * A) (by rw [secsN_512, HR5.out]; have := HMAY.out; omega)
          rw [secsN_512, HR2.out, List.take_of_length_le (by simp)] at this
          rw [← this]; congr 1, errN_0] at kc
        have T5 := Lib.hid t5
        clear t4 t5
        go_wp2_with fail
        with_reducible refine kc.mono ?_
        clear kc
        rintro e w6 ⟨v6, rfl, t6⟩
        have t6 : St w.heap.size w w6 (OwB v6 (List.replicate (512 * A) 0) :: OwB v5 b :: DkO q D2 :: []) := t6
        have T6 := Lib.hid t6
        clear t6 T5
        go_wp2_with fail
        with_reducible refine (ref_Sectors _ b.length b.length rfl (by omega)).mono ?_
        rintro e w' ⟨rfl, rfl⟩
        have hk128 : secsN b.length ≤ 128 := by have := HMAY.out; omega
        have kc := extent_Read T6.out (i := 2) rfl ((A : Int) + (secsN b.length : Nat)) (512 * ((sn : Int) - ((A : Int) + (secsN b.length : Nat)))) (by have := HR6.out; omega) (by omega)
        rw [show D2.inp ((A : Int) + (secsN b.length : Nat)) (512 * ((sn : Int) - ((A : Int) + (secsN b.length : Nat)))) = (0, List.replicate (512 * (sn - (A + secsN b.length))) 0) by
          have := Dk.inp_on HR4.out (A + secsN b.length) (512 * (sn - (A + secsN b.length))) (by rw [secsN_512, HR5.out]; have := HMAY.out; omega)
          rw [secsN_512, HR3.out, List.take_of_length_le (by simp)] at this
          rw [← this]; congr 1; have := HMAY.out; omega, errN_0] at kc
        go_wp2_with fail
        with_reducible refine kc.mono ?_
        clear kc
        rintro e w7 ⟨v7, rfl, t7⟩
        have t7 : St w.heap.size w w7 (OwB v7 (List.replicate (512 * (sn - (A + secsN b.length))) 0) :: OwB v6 (List.replicate (512 * A) 0) :: OwB v5 b :: DkO q D2 :: []) := t7
        obtain ⟨a5, c5, rfl, hb5⟩ := t7.bsOwn (i := 2) rfl
        obtain ⟨a6, c6, rfl, hb6⟩ := t7.bsOwn (i := 1) rfl
        obtain ⟨a7, c7, rfl, hb7⟩ := t7.bsOwn (i := 0) rfl
        clear hb6 hb7
        have hs5 := run_s w7 hb5
        have hs0 := run_s w7 (t7.bs HB.out (bs_lowE HB.out))
        have hb6 := t7.drew.bsV (i := 1) rfl; have hb7 := t7.drew.bsV (i := 0) rfl
        rw [List.length_replicate] at hb6 hb7
        have HB6 := Lib.hid hb6; have HB7 := Lib.hid hb7
        have T7 := Lib.hid t7
        obtain ⟨N6, hN6⟩ : ∃ N, N = 512 * A := ⟨_, rfl⟩
        obtain ⟨N7, hN7⟩ : ∃ N, N = 512 * (sn - (A + secsN b.length)) := ⟨_, rfl⟩
        rw [← hN6] at HB6
        rw [← hN7] at HB7
        have e6 : 512 * (A : Int) = (N6 : Int) := by omega
        have e7 : 512 * ((sn : Int) - ((A : Int) + (secsN b.length : Nat))) = (N7 : Int) := by have := HMAY.out; omega
        have w6' : IntKind.i64.wrap (512 * (A : Int)) = (N6 : Int) := by rw [e6]; exact IntWalk.i64_in _ (by omega)
        have w7' : IntKind.i64.wrap ((sn : Int) - ((A : Int) + (secsN b.length : Nat))) = (sn : Int) - ((A : Int) + (secsN b.length : Nat)) := IntWalk.i64_in _ (by have := HMAY.out; omega)
        have w8' : IntKind.i64.wrap (512 * ((sn : Int) - ((A : Int) + (secsN b.length : Nat)))) = (N7 : Int) := by rw [e7]; exact IntWalk.i64_in _ (by omega)
        have HE := Lib.hid (And.intro e6 (And.intro e7 (And.intro hN6 hN7)))
        have l6 : N6 ≤ 281474976710656 := by omega
        have l7 : N7 ≤ 281474976710656 := by omega
        rw [List.length_replicate, List.length_replicate, ← hN6, ← hN7]
        clear e6 e7 hb5 hb6 hb7 t7 T6 hN6 hN7
        go_wp2
        clear hs5 hs0
        refine flowe_begin (F := fun _ => False) hmixed 22 rfl (by repeat (first | exact ps_body | refine ps_then ?_ | refine ps_block ?_)) (fun hps => ?_)
        simp only [List.replicate]
        have kk := (Keep.refl (fun _ => False) (w7)).drew
        refine flowe_take 0 (v := ?_) (a' := ?_) hps rfl (by kernel_rfl) rfl ?_ ?_ ?_
        rotate_left 2
        · intro w' hk; go_simp; try rfl
        · simp only [Act.put, List.setIfInBounds_toArray, List.set_cons_succ, List.set_cons_zero]; try rfl
        refine flowe_take 1 (v := ?_) (a' := ?_) hps rfl (by kernel_rfl) rfl ?_ ?_ ?_
        rotate_left 2
        · intro w' hk; go_simp; try rfl
        · simp only [Act.put, List.setIfInBounds_toArray, List.set_cons_succ, List.set_cons_zero]; try rfl
        refine flowe_take 2 (v := ?_) (a' := ?_) hps rfl (by kernel_rfl) rfl ?_ ?_ ?_
        rotate_left 2
        · intro w' hk; go_simp; try rfl
        · simp only [Act.put, List.setIfInBounds_toArray, List.set_cons_succ, List.set_cons_zero]; try rfl
        refine flowe_take 3 (v := ?_) (a' := ?_) hps rfl (by kernel_rfl) rfl ?_ ?_ ?_
        rotate_left 2
        · intro w' hk; have hs := run_s w' (HB6.out.keep hk (fun _ _ h => h)); go_simp; try rfl
        · simp only [Act.put, List.setIfInBounds_toArray, List.set_cons_succ, List.set_cons_zero]; try rfl
        refine flowe_take 4 (v := ?_) (a' := ?_) hps rfl (by kernel_rfl) rfl ?_ ?_ ?_
        rotate_left 2
        · intro w' hk; go_simp; try rfl
        · simp only [Act.put, List.setIfInBounds_toArray, List.set_cons_succ, List.set_cons_zero]; try rfl
        refine flowe_take 5 (v := ?_) (a' := ?_) hps rfl (by kernel_rfl) rfl ?_ ?_ ?_
        rotate_left 2
        · intro w' hk; go_simp; try rfl
        · simp only [Act.put, List.setIfInBounds_toArray, List.set_cons_succ, List.set_cons_zero]; try rfl
        refine flowe_one 6 hps rfl (by kernel_rfl) rfl (wp_next (fun K hK => ?_))
        obtain ⟨g8, W8, hmk, hb8, kb8⟩ := mk_bs w7.drew (N6 : Int) N6 rfl l6
        go_simp
        have HB8 := Lib.hid hb8
        have HB7 := Lib.hid (HB7.out.below kb8)
        have kp := Keep.of_below (F := fun _ => False) kb8
        clear hmk hb8 kb8
        refine hK _ _ (flow_step kk ?_ ?_)
        · first | exact kp | exact Keep.refl _ _ | exact (Keep.refl _ _).alloc _
        clear kk hK; try clear kp
        intro kk
        refine flowe_take 7 (v := ?_) (a' := ?_) hps rfl (by kernel_rfl) rfl ?_ ?_ ?_
        rotate_left 2
        · intro w' hk; have hs := run_s w' (HB8.out.keep hk (fun _ _ h => h)); go_simp; try rfl
        · simp only [Act.put, List.setIfInBounds_toArray, List.set_cons_succ, List.set_cons_zero]; try rfl
        refine flowe_take 8 (v := ?_) (a' := ?_) hps rfl (by kernel_rfl) rfl ?_ ?_ ?_
        rotate_left 2
        · intro w' hk; go_simp; try rfl
        · simp only [Act.put, List.setIfInBounds_toArray, List.set_cons_succ, List.set_cons_zero]; try rfl
        refine flowe_take 9 (v := ?_) (a' := ?_) hps rfl (by kernel_rfl) rfl ?_ ?_ ?_
        rotate_left 2
        · intro w' hk; go_simp; try rfl
        · simp only [Act.put, List.setIfInBounds_toArray, List.set_cons_succ, List.set_cons_zero]; try rfl
        refine flowe_take 10 (v := ?_) (a' := ?_) hps rfl (by kernel_rfl) rfl ?_ ?_ ?_
        rotate_left 2
        · intro w' hk; go_simp; try rfl
        · simp only [Act.put, List.setIfInBounds_toArray, List.set_cons_succ, List.set_cons_zero]; try rfl
        refine flowe_take 11 (v := ?_) (a' := ?_) hps rfl (by kernel_rfl) rfl ?_ ?_ ?_
        rotate_left 2
        · intro w' hk; go_simp; try rfl
        · simp only [Act.put, List.setIfInBounds_toArray, List.set_cons_succ, List.set_cons_zero]; try rfl
        refine flowe_take 12 (v := ?_) (a' := ?_) hps rfl (by kernel_rfl) rfl ?_ ?_ ?_
        rotate_left 2
        · intro w' hk; have hs := run_s w' (HB7.out.keep hk (fun _ _ h => h)); go_simp; try rfl
        · simp only [Act.put, List.setIfInBounds_toArray, List.set_cons_succ, List.set_cons_zero]; try rfl
        refine flowe_take 13 (v := ?_) (a' := ?_) hps rfl (by kernel_rfl) rfl ?_ ?_ ?_
        rotate_left 2
        · intro w' hk; go_simp; try rfl
        · simp only [Act.put, List.setIfInBounds_toArray, List.set_cons_succ, List.set_cons_zero]; try rfl
        refine flowe_take 14 (v := ?_) (a' := ?_) hps rfl (by kernel_rfl) rfl ?_ ?_ ?_
        rotate_left 2
        · intro w' hk; go_simp; try rfl
        · simp only [Act.put, List.setIfInBounds_toArray, List.set_cons_succ, List.set_cons_zero]; try rfl
        refine flowe_take 15 (v := ?_) (a' := ?_) hps rfl (by kernel_rfl) rfl ?_ ?_ ?_
        rotate_left 2
        · intro w' hk; go_simp; try rfl
        · simp only [Act.put, List.setIfInBounds_toArray, List.set_cons_succ, List.set_cons_zero]; try rfl
        refine flowe_take 16 (v := ?_) (a' := ?_) hps rfl (by kernel_rfl) rfl ?_ ?_ ?_
        rotate_left 2
        · intro w' hk; go_simp; try rfl
        · simp only [Act.put, List.setIfInBounds_toArray, List.set_cons_succ, List.set_cons_zero]; try rfl
        refine flowe_one 17 hps rfl (by kernel_rfl) rfl (wp_next (fun K hK => ?_))
        obtain ⟨g9, W9, hmk, hb9, kb9⟩ := mk_bs W8 (N7 : Int) N7 rfl l7
        go_simp
        have HB9 := Lib.hid hb9
        have kp := Keep.of_below (F := fun _ => False) kb9
        clear hmk hb9 kb9
        refine hK _ _ (flow_step kk ?_ ?_)
        · first | exact kp | exact Keep.refl _ _ | exact (Keep.refl _ _).alloc _
        clear kk hK; try clear kp
        intro kk
        refine flowe_take 18 (v := ?_) (a' := ?_) hps rfl (by kernel_rfl) rfl ?_ ?_ ?_
        rotate_left 2
        · intro w' hk; have hs := run_s w' (HB9.out.keep hk (fun _ _ h => h)); go_simp; try rfl
        · simp only [Act.put, List.setIfInBounds_toArray, List.set_cons_succ, List.set_cons_zero]; try rfl
        refine flowe_take 19 (v := ?_) (a' := ?_) hps rfl (by kernel_rfl) rfl ?_ ?_ ?_
        rotate_left 2
        · intro w' hk; go_simp; try rfl
        · simp only [Act.put, List.setIfInBounds_toArray, List.set_cons_succ, List.set_cons_zero]; try rfl
        refine flowe_take 20 (v := ?_) (a' := ?_) hps rfl (by kernel_rfl) rfl ?_ ?_ ?_
        rotate_left 2
        · intro w' hk; go_simp; try rfl
        · simp only [Act.put, List.setIfInBounds_toArray, List.set_cons_succ, List.set_cons_zero]; try rfl
        refine flowe_take 21 (v := ?_) (a' := ?_) hps rfl (by kernel_rfl) rfl ?_ ?_ ?_
        rotate_left 2
        · intro w' hk; go_simp; try rfl
        · simp only [Act.put, List.setIfInBounds_toArray, List.set_cons_succ, List.set_cons_zero]; try rfl
        refine flowe_done hps (by kernel_rfl) ?_
        have BZ := Lib.hid (T7.out.below (kk.below (Nat.le_refl _) fun _ _ h => h)).end
        clear kk
        go_wp2
        go_ret
        exact ⟨rfl, BZ.out⟩
    · rw [Dk.out_no _ at_ b (by rw [hzl]; exact hmay), errN_pos (show (1 : Int) ≠ 0 by decide)] at kc
      go_wp2_with fail
      with_reducible refine kc.mono ?_
      clear kc
      rintro e w3 ⟨rfl, t3⟩
      have t3 : St w.heap.size w w3 (DkO q (zdk sn) :: []) := t3
      have kc := dk_Waiting t3 (i := 0) rfl
      rw [show ((zdk sn).wait.length) = 0 from rfl] at kc
      have B3 := Lib.hid t3.end
      clear hmay t3 t2 T1 hzl
      go_wp2_with fail
      with_reducible refine kc.mono ?_
      clear kc
      rintro e w' ⟨rfl, rfl⟩
      go_wp2
      go_ret
      exact ⟨rfl, B3.out⟩
  · have g3 : sec < 2 ∨ 128 < sec := by omega
    go_wp2_with fail
    have kc := disk_New_none w1 sec g3
    with_reducible refine kc.mono ?_
    clear kc
    rintro e w' ⟨rfl, rfl⟩
    have B2 := Lib.hid T1.out.end
    by_cases g4 : sec < 2
    · clear hs g3
      go_wp2
      go_ret
      exact ⟨rfl, B2.out⟩
    · have g5 : 128 < sec := by omega
      clear hs g3
      go_wp2
      go_ret
      exact ⟨rfl, B2.out⟩
end Go.Proofs.Ytjijniillehfoaa
