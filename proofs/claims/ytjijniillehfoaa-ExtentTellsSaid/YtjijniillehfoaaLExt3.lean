/- Layer 5: the program and the reference tell the same. -/
import Derived.Test.YtjijniillehfoaaLExt2
import Derived.Test.YtjijniillehfoaaShape
namespace Go.Proofs.Ytjijniillehfoaa
open Go Go.RowKit Go.Own
set_option linter.unusedVariables false
set_option maxRecDepth 100000
theorem ts_lowE {w : World} {a : Option Addr} {n c : Nat} {b : List Bool} (h : Ts w a n c b) : ∀ q, a = some q → 0 < b.length → q.block < w.heap.size := by
  intro q hq h0
  obtain ⟨b', o, e, hc⟩ := Sl.cells h 0 (.bool b[0]) (by simp [h0])
  rw [hq] at e; cases e
  exact World.block_lt_of_cell? w _ hc
set_option maxHeartbeats 8000000 in
theorem extentTells (w : World) (sec at_ : Int) (a : Option Addr) (n c : Nat) (b : List UInt8) (cut fr m : Int) (ka : Option Addr) (kn kc : Nat) (hs : (Lit.int .i64 sec).wf = true) (hat : (Lit.int .i64 at_).wf = true) (hb : Bs w a n c b)
    (hcut : (Lit.int .i64 cut).wf = true) (hfr : (Lit.int .i64 fr).wf = true) (hm : (Lit.int .i64 m).wf = true) (hr : Rd w (.sl .bool) [.slice ka kn kc]) :
    Calls Try.prog 6 #[.int .i64 sec, .int .i64 at_, .slice a n c, .int .i64 cut, .int .i64 fr, .int .i64 m, .slice ka kn kc] w (lawOk w) := by
  obtain ⟨s0, s1⟩ := wfI64 hs
  obtain ⟨a0, a1⟩ := wfI64 hat
  obtain ⟨c0, c1⟩ := wfI64 hcut
  obtain ⟨f0, f1⟩ := wfI64 hfr
  obtain ⟨m0, m1⟩ := wfI64 hm
  obtain ⟨kl, hkl⟩ := hr.bools
  have hn := hb.len
  subst hn
  have p1 := Sl.cap hb; have r1 := Sl.room hb
  have HB := Lib.hid hb; have HK := Lib.hid hkl
  clear hs hat hcut hfr hm hr hb hkl
  go_enter Try.func6, Try.ntmps6
  go_wp2_with fail
  refine (up05 w).mono ?_
  rintro e w1 ⟨rfl, bw1⟩
  have T1 := Lib.hid ((St.start w).below bw1)
  clear bw1
  by_cases hs : 2 ≤ sec ∧ sec ≤ 128
  · obtain ⟨g1, g2⟩ := hs
    obtain ⟨sn, rfl⟩ := Int.eq_ofNat_of_zero_le (show 0 ≤ sec by omega)
    have hd1 : decide ((sn : Int) < 2) = false := by rw [decide_eq_false_iff_not]; omega
    have hd2 : decide ((128 : Int) < sn) = false := by rw [decide_eq_false_iff_not]; omega
    go_wp2_with fail
    have kc := dk_New T1.out (sn : Int) sn rfl (by omega) (by omega)
    with_reducible refine kc.mono ?_
    clear kc
    rintro e w2 ⟨q, rfl, t2⟩
    by_cases hl1 : b.length > 70000
    · have B2 := Lib.hid t2.end
      clear t2 T1
      go_wp2
      go_ret
      exact ⟨rfl, B2.out⟩
    have hzs := zeroL_secs sn; have hzl := zeroL_len sn; have hzf := zeroL_flat sn
    obtain ⟨N, hN⟩ : ∃ N, N = 512 * sn := ⟨_, rfl⟩
    rw [← hN] at hzf
    obtain ⟨g, W, hmk, hbz, hkz⟩ := mk_bs w2 (512 * (sn : Int)) N (by omega) (by omega)
    have t3 := t2.below hkz
    have kc := rdk_New t3 (some ⟨g, 0, none⟩) N N _ hbz (zeroL sn) hzs hzf (by omega) (by omega)
    obtain ⟨D0, hD0⟩ : ∃ D0 : Dk, D0 = ⟨zeroL sn, [], false, -1⟩ := ⟨_, rfl⟩
    rw [← hD0] at kc t3
    have d1 : D0.L.length = sn := by rw [hD0]; exact hzl
    have d2 : D0.wait.length = 0 := by rw [hD0]; rfl
    have d3 : D0.L.length ≤ 128 := by omega
    have D2' := Lib.hid d2; have D3' := Lib.hid d3
    clear t2 hbz hkz hzs hzl hzf hD0 hN d1 d2 d3 T1
    go_wp2_with fail
    with_reducible refine kc.mono ?_
    clear kc
    rintro e w4 ⟨qm, rfl, t4⟩
    have t4 := t4.swap
    clear t3
    go_wp2_with fail
    have kc := dk_Cut t4 (i := 0) rfl cut c0 c1
    with_reducible refine kc.mono ?_
    clear kc
    rintro e w5 ⟨rfl, t5⟩
    clear t4
    go_wp2_with fail
    have kc := rdk_Cut t5 (i := 1) rfl cut c0 c1
    with_reducible refine kc.mono ?_
    clear kc
    rintro e w6 ⟨rfl, t6⟩
    have t6 : St w.heap.size w w6 (DkO q (D0.cut cut) :: RdO qm (D0.cut cut) :: []) := t6
    obtain ⟨D1, hD1⟩ : ∃ D1 : Dk, D1 = D0.cut cut := ⟨_, rfl⟩
    rw [← hD1] at t6
    have d2 : D1.wait.length = 0 := by rw [hD1]; exact D2'.out
    have d3 : D1.L.length ≤ 128 := by rw [hD1]; exact D3'.out
    clear t5 hD1
    go_wp2_with fail
    have kc := extent_Write t6 (i := 0) rfl at_ a0 a1 a _ c b (fun w' D' h => h.bs HB.out (bs_lowE HB.out)) (by omega) (by omega)
    with_reducible refine kc.mono ?_
    clear kc
    rintro e w7 ⟨rfl, t7⟩
    have t7 : St w.heap.size w w7 (DkO q (D1.out at_ b).2 :: RdO qm D1 :: []) := t7
    have hoc := D1.out_code at_ b
    go_wp2_with fail
    with_reducible refine (code_err _ _ hoc.1 hoc.2).mono ?_
    rintro e w' ⟨rfl, rfl⟩
    go_wp2_with fail
    have kc := rdk_Out t7 (i := 1) rfl at_ a0 a1 a _ c b (fun w' D' h => h.bs HB.out (bs_lowE HB.out)) (by omega) (by omega)
    with_reducible refine kc.mono ?_
    clear kc
    rintro e w8 ⟨rfl, t8⟩
    have t8 : St w.heap.size w w8 (DkO q (D1.out at_ b).2 :: RdO qm (D1.out at_ b).2 :: []) := t8
    have how := D1.out_wait at_ b d3
    generalize (D1.out at_ b).1 = oc at *
    obtain ⟨D2, hD2⟩ : ∃ D2 : Dk, D2 = (D1.out at_ b).2 := ⟨_, rfl⟩
    rw [← hD2] at t8 how
    have e2 : D2.wait.length ≤ 1000 := by omega
    clear t7 t6 how hD2 hoc
    go_wp2_with fail
    have kc := extent_Read t8 (i := 0) rfl fr m (by omega) (by omega)
    with_reducible refine kc.mono ?_
    clear kc
    rintro e w9 ⟨v9, rfl, t9⟩
    clear t8
    go_wp2_with fail
    have kc := rdk_In t9 (i := 2) rfl fr m (by omega) (by omega)
    with_reducible refine kc.mono ?_
    clear kc
    rintro e wa ⟨va, rfl, ta⟩
    obtain ⟨ax, cx, rfl, _⟩ := ta.bsOwn (i := 0) rfl
    obtain ⟨ay, cy, rfl, _⟩ := ta.bsOwn (i := 1) rfl
    have hic := D2.inp_code fr m
    generalize (D2.inp fr m).1 = ic at *
    generalize (D2.inp fr m).2 = bs at *
    have TA := Lib.hid ta
    have HX := Lib.hid (ta.drew.bsV (i := 0) rfl); have HY := Lib.hid (ta.drew.bsV (i := 1) rfl)
    have td := ta.tail.tail
    obtain ⟨F2, hf2, _⟩ := dk_of td.drew (i := 0) rfl
    obtain ⟨_, _, aW, cW, _, hcl⟩ := rd_cells td.drew (i := 1) rfl
    have hq := World.block_lt_of_cell? _ _ hcl
    simp only at hq
    have HF2 := Lib.hid hf2; have HCL := Lib.hid hcl; have HQ := Lib.hid hq
    have TD := Lib.hid td
    have HIC := Lib.hid hic
    clear t9 ta td hf2 hcl hq hic
    go_wp2
    refine flowe_begin (F := fun _ => False) hmixed 21 rfl (by repeat (first | exact ps_body | refine ps_then ?_ | refine ps_block ?_)) (fun hps => ?_)
    simp only [List.replicate]
    have kk := (Keep.refl (fun _ => False) (wa)).drew
    refine flowe_take 0 (v := ?_) (a' := ?_) hps rfl (by kernel_rfl) rfl ?_ ?_ ?_
    rotate_left 2
    · intro w' hk; go_simp; try rfl
    · simp only [Act.put, List.setIfInBounds_toArray, List.set_cons_succ, List.set_cons_zero]; try rfl
    refine flowe_take 1 (v := ?_) (a' := ?_) hps rfl (by kernel_rfl) rfl ?_ ?_ ?_
    rotate_left 2
    · intro w' hk; have hs := run_s w' (HY.out.keep hk (fun _ _ h => h)); go_simp; try rfl
    · simp only [Act.put, List.setIfInBounds_toArray, List.set_cons_succ, List.set_cons_zero]; try rfl
    refine flowe_take 2 (v := ?_) (a' := ?_) hps rfl (by kernel_rfl) rfl ?_ ?_ ?_
    rotate_left 2
    · intro w' hk; go_simp; try rfl
    · simp only [Act.put, List.setIfInBounds_toArray, List.set_cons_succ, List.set_cons_zero]; try rfl
    refine flowe_take 3 (v := ?_) (a' := ?_) hps rfl (by kernel_rfl) rfl ?_ ?_ ?_
    rotate_left 2
    · intro w' hk; have hs := run_s w' (HX.out.keep hk (fun _ _ h => h)); go_simp; try rfl
    · simp only [Act.put, List.setIfInBounds_toArray, List.set_cons_succ, List.set_cons_zero]; try rfl
    refine flowe_take 4 (v := ?_) (a' := ?_) hps rfl (by kernel_rfl) rfl ?_ ?_ ?_
    rotate_left 2
    · intro w' hk; go_simp; try rfl
    · simp only [Act.put, List.setIfInBounds_toArray, List.set_cons_succ, List.set_cons_zero]; try rfl
    refine flowe_take 5 (v := ?_) (a' := ?_) hps rfl (by kernel_rfl) rfl ?_ ?_ ?_
    rotate_left 2
    · intro w' hk; go_simp; try rfl
    · simp only [Act.put, List.setIfInBounds_toArray, List.set_cons_succ, List.set_cons_zero]; try rfl
    refine flowe_take 6 (v := ?_) (a' := ?_) hps rfl (by kernel_rfl) rfl ?_ ?_ ?_
    rotate_left 2
    · intro w' hk; go_simp; try rfl
    · simp only [Act.put, List.setIfInBounds_toArray, List.set_cons_succ, List.set_cons_zero]; try rfl
    refine flowe_take 8 (v := ?_) (a' := ?_) hps rfl (by kernel_rfl) rfl ?_ ?_ ?_
    rotate_left 2
    · intro w' hk; go_simp; try rfl
    · simp only [Act.put, List.setIfInBounds_toArray, List.set_cons_succ, List.set_cons_zero]; try rfl
    refine flowe_one 7 hps rfl (by kernel_rfl) rfl (wp_next (fun K hK => ?_))
    go_simp
    with_reducible refine (code_err _ _ HIC.out.1 HIC.out.2).mono ?_
    rintro e w' ⟨rfl, rfl⟩
    refine hK _ _ (flow_step kk ?_ ?_)
    · first | exact kp | exact Keep.refl _ _ | exact (Keep.refl _ _).alloc _
    clear kk hK; try clear kp
    intro kk
    refine flowe_take 9 (v := ?_) (a' := ?_) hps rfl (by kernel_rfl) rfl ?_ ?_ ?_
    rotate_left 2
    · intro w' hk; go_simp; try rfl
    · simp only [Act.put, List.setIfInBounds_toArray, List.set_cons_succ, List.set_cons_zero]; try rfl
    refine flowe_take 10 (v := ?_) (a' := ?_) hps rfl (by kernel_rfl) rfl ?_ ?_ ?_
    rotate_left 2
    · intro w' hk; go_simp; try rfl
    · simp only [Act.put, List.setIfInBounds_toArray, List.set_cons_succ, List.set_cons_zero]; try rfl
    refine flowe_take 11 (v := ?_) (a' := ?_) hps rfl (by kernel_rfl) rfl ?_ ?_ ?_
    rotate_left 2
    · intro w' hk; go_simp; try rfl
    · simp only [Act.put, List.setIfInBounds_toArray, List.set_cons_succ, List.set_cons_zero]; try rfl
    refine flowe_take 12 (v := ?_) (a' := ?_) hps rfl (by kernel_rfl) rfl ?_ ?_ ?_
    rotate_left 2
    · intro w' hk; go_simp; try rfl
    · simp only [Act.put, List.setIfInBounds_toArray, List.set_cons_succ, List.set_cons_zero]; try rfl
    refine flowe_take 14 (v := ?_) (a' := ?_) hps rfl (by kernel_rfl) rfl ?_ ?_ ?_
    rotate_left 2
    · intro w' hk; go_simp; try rfl
    · simp only [Act.put, List.setIfInBounds_toArray, List.set_cons_succ, List.set_cons_zero]; try rfl
    refine flowe_take 15 (v := ?_) (a' := ?_) hps rfl (by kernel_rfl) rfl ?_ ?_ ?_
    rotate_left 2
    · intro w' hk; go_simp; try rfl
    · simp only [Act.put, List.setIfInBounds_toArray, List.set_cons_succ, List.set_cons_zero]; try rfl
    refine flowe_take 16 (v := ?_) (a' := ?_) hps rfl (by kernel_rfl) rfl ?_ ?_ ?_
    rotate_left 2
    · intro w' hk; go_simp; try rfl
    · simp only [Act.put, List.setIfInBounds_toArray, List.set_cons_succ, List.set_cons_zero]; try rfl
    refine flowe_take 17 (v := ?_) (a' := ?_) hps rfl (by kernel_rfl) rfl ?_ ?_ ?_
    rotate_left 2
    · intro w' hk; have hc : w'.cell? ⟨qm, 1, none⟩ = some (.slice aW D2.wait.length cW) := (by rw [cell_of_block (w := wa.drew) (p := ⟨qm, 1, none⟩) (hk.block qm HQ.out (fun h => h))]; exact HCL.out); go_simp; try rfl
    · simp only [Act.put, List.setIfInBounds_toArray, List.set_cons_succ, List.set_cons_zero]; try rfl
    refine flowe_take 18 (v := ?_) (a' := ?_) hps rfl (by kernel_rfl) rfl ?_ ?_ ?_
    rotate_left 2
    · intro w' hk; go_simp; try rfl
    · simp only [Act.put, List.setIfInBounds_toArray, List.set_cons_succ, List.set_cons_zero]; try rfl
    refine flowe_one 13 hps rfl (by kernel_rfl) rfl (wp_next (fun K hK => ?_))
    go_simp
    have kc := disk_Waiting _ q D2 F2 HF2.out
    with_reducible refine kc.mono ?_
    clear kc
    rintro e w' ⟨rfl, rfl⟩
    refine hK _ _ (flow_step kk ?_ ?_)
    · first | exact kp | exact Keep.refl _ _ | exact (Keep.refl _ _).alloc _
    clear kk hK; try clear kp
    intro kk
    refine flowe_take 19 (v := ?_) (a' := ?_) hps rfl (by kernel_rfl) rfl ?_ ?_ ?_
    rotate_left 2
    · intro w' hk; go_simp; try rfl
    · simp only [Act.put, List.setIfInBounds_toArray, List.set_cons_succ, List.set_cons_zero]; try rfl
    refine flowe_take 20 (v := ?_) (a' := ?_) hps rfl (by kernel_rfl) rfl ?_ ?_ ?_
    rotate_left 2
    · intro w' hk; go_simp; try rfl
    · simp only [Act.put, List.setIfInBounds_toArray, List.set_cons_succ, List.set_cons_zero]; try rfl
    refine flowe_done hps (by kernel_rfl) ?_
    have tb := TD.out.below (kk.below (Nat.le_refl _) fun _ _ h => h)
    clear kk HX HY HF2 HCL HQ TD TA HIC
    go_wp2_with fail
    have kc := dk_Boot tb (i := 0) rfl ka kn kc kl HK.out (ts_lowE HK.out) (by omega)
    with_reducible refine kc.mono ?_
    clear kc
    rintro e wc ⟨rfl, tc⟩
    clear tb
    go_wp2_with fail
    have kc := rdk_Boot tc (i := 1) rfl ka kn kc kl HK.out (ts_lowE HK.out) (by omega)
    with_reducible refine kc.mono ?_
    clear kc
    rintro e wd ⟨rfl, td⟩
    have td : St w.heap.size w wd (DkO q (D2.boot kl) :: RdO qm (D2.boot kl) :: []) := td
    generalize D2.boot kl = D3 at *
    obtain ⟨F3, hf3, _⟩ := dk_of td.drew (i := 0) rfl
    obtain ⟨F4, hf4, _⟩ := rd_of td.drew (i := 1) rfl
    have HF3 := Lib.hid hf3; have HF4 := Lib.hid hf4; have TD := Lib.hid td
    clear tc td hf3 hf4
    go_wp2
    refine flowe_begin (F := fun _ => False) hmixed 11 rfl (by repeat (first | exact ps_body | refine ps_then ?_ | refine ps_block ?_)) (fun hps => ?_)
    simp only [List.replicate]
    have kk := (Keep.refl (fun _ => False) (wd)).drew
    refine flowe_take 0 (v := ?_) (a' := ?_) hps rfl (by kernel_rfl) rfl ?_ ?_ ?_
    rotate_left 2
    · intro w' hk; go_simp; try rfl
    · simp only [Act.put, List.setIfInBounds_toArray, List.set_cons_succ, List.set_cons_zero]; try rfl
    refine flowe_take 1 (v := ?_) (a' := ?_) hps rfl (by kernel_rfl) rfl ?_ ?_ ?_
    rotate_left 2
    · intro w' hk; go_simp; try rfl
    · simp only [Act.put, List.setIfInBounds_toArray, List.set_cons_succ, List.set_cons_zero]; try rfl
    refine flowe_take 2 (v := ?_) (a' := ?_) hps rfl (by kernel_rfl) rfl ?_ ?_ ?_
    rotate_left 2
    · intro w' hk; go_simp; try rfl
    · simp only [Act.put, List.setIfInBounds_toArray, List.set_cons_succ, List.set_cons_zero]; try rfl
    refine flowe_take 5 (v := ?_) (a' := ?_) hps rfl (by kernel_rfl) rfl ?_ ?_ ?_
    rotate_left 2
    · intro w' hk; go_simp; try rfl
    · simp only [Act.put, List.setIfInBounds_toArray, List.set_cons_succ, List.set_cons_zero]; try rfl
    refine flowe_one 3 hps rfl (by kernel_rfl) rfl (wp_next (fun K hK => ?_))
    go_simp
    have kc := disk_Bytes wd.drew q D3 F3 HF3.out
    with_reducible refine kc.mono ?_
    clear kc
    rintro e w3 ⟨v3, rfl, o3, b3⟩
    obtain ⟨a3, c3, rfl, _, hb3⟩ := Sl.of_owned o3
    have hb3 : Bs w3 a3 D3.L.flatten.length c3 D3.L.flatten := hb3
    generalize D3.L.flatten.length = n3 at *
    have HB3 := Lib.hid hb3
    have HR3 := Lib.hid (HF4.out.below b3)
    have kp := Keep.of_below (F := fun _ => False) b3
    clear o3 b3 hb3
    refine hK _ _ (flow_step kk ?_ ?_)
    · first | exact kp | exact Keep.refl _ _ | exact (Keep.refl _ _).alloc _
    clear kk hK; try clear kp
    intro kk
    refine flowe_take 4 (v := ?_) (a' := ?_) hps rfl (by kernel_rfl) rfl ?_ ?_ ?_
    rotate_left 2
    · intro w' hk; have hs := run_s w' (HB3.out.keep hk (fun _ _ h => h)); go_simp; try rfl
    · simp only [Act.put, List.setIfInBounds_toArray, List.set_cons_succ, List.set_cons_zero]; try rfl
    refine flowe_one 6 hps rfl (by kernel_rfl) rfl (wp_next (fun K hK => ?_))
    go_simp
    have kc := rd_Bytes w3 qm D3 F4 HR3.out
    with_reducible refine kc.mono ?_
    clear kc
    rintro e w4 ⟨v4, rfl, o4, b4⟩
    obtain ⟨a4, c4, rfl, _, hb4⟩ := Sl.of_owned o4
    have hb4 : Bs w4 a4 D3.L.flatten.length c4 D3.L.flatten := hb4
    generalize D3.L.flatten.length = n4 at *
    have HB4 := Lib.hid hb4
    have kp := Keep.of_below (F := fun _ => False) b4
    clear o4 b4 hb4
    refine hK _ _ (flow_step kk ?_ ?_)
    · first | exact kp | exact Keep.refl _ _ | exact (Keep.refl _ _).alloc _
    clear kk hK; try clear kp
    intro kk
    refine flowe_take 7 (v := ?_) (a' := ?_) hps rfl (by kernel_rfl) rfl ?_ ?_ ?_
    rotate_left 2
    · intro w' hk; have hs := run_s w' (HB4.out.keep hk (fun _ _ h => h)); go_simp; try rfl
    · simp only [Act.put, List.setIfInBounds_toArray, List.set_cons_succ, List.set_cons_zero]; try rfl
    refine flowe_take 8 (v := ?_) (a' := ?_) hps rfl (by kernel_rfl) rfl ?_ ?_ ?_
    rotate_left 2
    · intro w' hk; go_simp; try rfl
    · simp only [Act.put, List.setIfInBounds_toArray, List.set_cons_succ, List.set_cons_zero]; try rfl
    refine flowe_take 9 (v := ?_) (a' := ?_) hps rfl (by kernel_rfl) rfl ?_ ?_ ?_
    rotate_left 2
    · intro w' hk; go_simp; try rfl
    · simp only [Act.put, List.setIfInBounds_toArray, List.set_cons_succ, List.set_cons_zero]; try rfl
    refine flowe_take 10 (v := ?_) (a' := ?_) hps rfl (by kernel_rfl) rfl ?_ ?_ ?_
    rotate_left 2
    · intro w' hk; go_simp; try rfl
    · simp only [Act.put, List.setIfInBounds_toArray, List.set_cons_succ, List.set_cons_zero]; try rfl
    refine flowe_done hps (by kernel_rfl) ?_
    have BZ := Lib.hid (TD.out.below (kk.below (Nat.le_refl _) fun _ _ h => h)).end
    clear kk
    go_wp2
    go_ret
    exact ⟨rfl, BZ.out⟩
  · have g3 : sec < 2 ∨ 128 < sec := by omega
    go_wp2_with fail
    have kc := disk_New_none w1 sec g3
    with_reducible refine kc.mono ?_
    clear kc
    rintro e w' ⟨rfl, rfl⟩
    have B2 := Lib.hid T1.out.end
    by_cases g4 : sec < 2
    · clear hs g3
      go_wp2
      go_ret
      exact ⟨rfl, B2.out⟩
    · have g5 : 128 < sec := by omega
      clear hs g3
      go_wp2
      go_ret
      exact ⟨rfl, B2.out⟩
end Go.Proofs.Ytjijniillehfoaa
