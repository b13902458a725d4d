/- Bytes out of many sectors: the reference's call. -/
import Derived.Test.YtjijniillehfoaaExt3
namespace Go.Proofs.Ytjijniillehfoaa
open Go Go.RowKit Go.Own
set_option linter.unusedVariables false
set_option maxRecDepth 100000
section
variable {B : Nat} {w0 w : World} {l : List Ob} {i p : Nat} {D : Dk}
set_option maxHeartbeats 4000000 in
theorem rdk_In_on (h : St B w0 w l) (hi : l[i]? = some (RdO p D)) (at_ n : Int) (hm : D.wait.length ≤ 1000000) (h0 : 0 ≤ at_) (n0 : 0 ≤ n) (hmay : at_ + secsN n.toNat ≤ D.L.length) (hoff : n = 0 ∨ D.off = false) :
    Calls Try.prog 55 #[ptr p, .int .i64 at_, .int .i64 n] w fun e w' => ∃ v, e = .returned (.tuple #[v, .int .i64 0]) ∧ St B w0 w' (OwB v ((D.secsAt at_.toNat (secsN n.toNat)).take n.toNat) :: l) := by
  obtain ⟨N, rfl⟩ := Int.eq_ofNat_of_zero_le n0
  rw [Int.toNat_natCast] at hmay
  rw [Int.toNat_natCast]
  generalize hAt : at_.toNat = A
  have hAt : at_ = A := by omega
  have hg := rdk_good h hi
  have hg1 := hg.many.2
  have hle := secsN_le N; have hge := secsN_ge N
  have hA : A + secsN N ≤ D.L.length := by omega
  have hN : N ≤ 65536 := by omega
  have KE : Hid (∀ w : World, Calls Try.prog 57 #[.int .i64 N] w fun e w' => e = .returned (.int .i64 (secsN N : Nat)) ∧ w = w') := Lib.hid fun w => ref_Sectors w N N rfl (by omega)
  obtain ⟨aL, cL, _, _, hcl, _⟩ := rd_cells h.drew hi
  have hp := World.block_lt_of_cell? _ _ hcl
  simp only at hp
  have HCL := Lib.hid hcl; have HP := Lib.hid hp
  have e0 : decide ((N : Int) < 0) = false := by rw [decide_eq_false_iff_not]; omega
  have e1 : decide (at_ < 0) = false := by rw [decide_eq_false_iff_not]; omega
  have e2 : decide ((D.L.length : Int) < at_) = false := by rw [decide_eq_false_iff_not]; omega
  have e3 : decide ((D.L.length : Int) - at_ < (secsN N : Int)) = false := by rw [decide_eq_false_iff_not]; omega
  have e4 : IntKind.i64.wrap ((D.L.length : Int) - at_) = (D.L.length : Int) - at_ := IntWalk.i64_in _ (by omega)
  have H := Lib.hid h; have HI := Lib.hid hi; have HG := Lib.hid hg; have HA := Lib.hid hA; have HLE := Lib.hid hle; have HGE := Lib.hid hge
  have HAT := Lib.hid hAt; have HOFF := Lib.hid hoff
  clear h hi hmay hg hA hle hge hAt hcl hp hoff
  go_enter Try.func55, Try.ntmps55
  go_wp2
  refine flowe_begin (F := fun _ => False) hmixed 27 rfl (by repeat (first | exact ps_body | refine ps_then ?_ | refine ps_block ?_)) (fun hps => ?_)
  simp only [List.replicate]
  have kk := (Keep.refl (fun _ => False) (w)).drew
  refine flowe_take 0 (v := ?_) (a' := ?_) hps rfl (by kernel_rfl) rfl ?_ ?_ ?_
  rotate_left 2
  · intro w' hk; go_simp; try rfl
  · simp only [Act.put, List.setIfInBounds_toArray, List.set_cons_succ, List.set_cons_zero]; try rfl
  refine flowe_take 1 (v := ?_) (a' := ?_) hps rfl (by kernel_rfl) rfl ?_ ?_ ?_
  rotate_left 2
  · intro w' hk; go_simp; try rfl
  · simp only [Act.put, List.setIfInBounds_toArray, List.set_cons_succ, List.set_cons_zero]; try rfl
  refine flowe_take 2 (v := ?_) (a' := ?_) hps rfl (by kernel_rfl) rfl ?_ ?_ ?_
  rotate_left 2
  · intro w' hk; go_simp; try rfl
  · simp only [Act.put, List.setIfInBounds_toArray, List.set_cons_succ, List.set_cons_zero]; try rfl
  refine flowe_take 3 (v := ?_) (a' := ?_) hps rfl (by kernel_rfl) rfl ?_ ?_ ?_
  rotate_left 2
  · intro w' hk; go_simp; try rfl
  · simp only [Act.put, List.setIfInBounds_toArray, List.set_cons_succ, List.set_cons_zero]; try rfl
  refine flowe_take 4 (v := ?_) (a' := ?_) hps rfl (by kernel_rfl) rfl ?_ ?_ ?_
  rotate_left 2
  · intro w' hk; go_simp; try rfl
  · simp only [Act.put, List.setIfInBounds_toArray, List.set_cons_succ, List.set_cons_zero]; try rfl
  refine flowe_take 5 (v := ?_) (a' := ?_) hps rfl (by kernel_rfl) rfl ?_ ?_ ?_
  rotate_left 2
  · intro w' hk; go_simp; try rfl
  · simp only [Act.put, List.setIfInBounds_toArray, List.set_cons_succ, List.set_cons_zero]; try rfl
  refine flowe_take 6 (v := ?_) (a' := ?_) hps rfl (by kernel_rfl) rfl ?_ ?_ ?_
  rotate_left 2
  · intro w' hk; go_simp; try rfl
  · simp only [Act.put, List.setIfInBounds_toArray, List.set_cons_succ, List.set_cons_zero]; try rfl
  refine flowe_take 7 (v := ?_) (a' := ?_) hps rfl (by kernel_rfl) rfl ?_ ?_ ?_
  rotate_left 2
  · intro w' hk; go_simp; try rfl
  · simp only [Act.put, List.setIfInBounds_toArray, List.set_cons_succ, List.set_cons_zero]; try rfl
  refine flowe_take 8 (v := ?_) (a' := ?_) hps rfl (by kernel_rfl) rfl ?_ ?_ ?_
  rotate_left 2
  · intro w' hk; go_simp; try rfl
  · simp only [Act.put, List.setIfInBounds_toArray, List.set_cons_succ, List.set_cons_zero]; try rfl
  refine flowe_take 9 (v := ?_) (a' := ?_) hps rfl (by kernel_rfl) rfl ?_ ?_ ?_
  rotate_left 2
  · intro w' hk; go_simp; try rfl
  · simp only [Act.put, List.setIfInBounds_toArray, List.set_cons_succ, List.set_cons_zero]; try rfl
  refine flowe_take 10 (v := ?_) (a' := ?_) hps rfl (by kernel_rfl) rfl ?_ ?_ ?_
  rotate_left 2
  · intro w' hk; go_simp; try rfl
  · simp only [Act.put, List.setIfInBounds_toArray, List.set_cons_succ, List.set_cons_zero]; try rfl
  refine flowe_take 11 (v := ?_) (a' := ?_) hps rfl (by kernel_rfl) rfl ?_ ?_ ?_
  rotate_left 2
  · intro w' hk; have hc : w'.cell? ⟨p, 0, none⟩ = some (.slice aL D.L.length cL) := (by rw [cell_of_block (w := w.drew) (p := ⟨p, 0, none⟩) (hk.block p HP.out (fun h => h))]; exact HCL.out); go_simp; try rfl
  · simp only [Act.put, List.setIfInBounds_toArray, List.set_cons_succ, List.set_cons_zero]; try rfl
  refine flowe_take 12 (v := ?_) (a' := ?_) hps rfl (by kernel_rfl) rfl ?_ ?_ ?_
  rotate_left 2
  · intro w' hk; go_simp; try rfl
  · simp only [Act.put, List.setIfInBounds_toArray, List.set_cons_succ, List.set_cons_zero]; try rfl
  refine flowe_take 13 (v := ?_) (a' := ?_) hps rfl (by kernel_rfl) rfl ?_ ?_ ?_
  rotate_left 2
  · intro w' hk; go_simp; try rfl
  · simp only [Act.put, List.setIfInBounds_toArray, List.set_cons_succ, List.set_cons_zero]; try rfl
  refine flowe_take 14 (v := ?_) (a' := ?_) hps rfl (by kernel_rfl) rfl ?_ ?_ ?_
  rotate_left 2
  · intro w' hk; go_simp; try rfl
  · simp only [Act.put, List.setIfInBounds_toArray, List.set_cons_succ, List.set_cons_zero]; try rfl
  refine flowe_take 15 (v := ?_) (a' := ?_) hps rfl (by kernel_rfl) rfl ?_ ?_ ?_
  rotate_left 2
  · intro w' hk; go_simp; try rfl
  · simp only [Act.put, List.setIfInBounds_toArray, List.set_cons_succ, List.set_cons_zero]; try rfl
  refine flowe_take 16 (v := ?_) (a' := ?_) hps rfl (by kernel_rfl) rfl ?_ ?_ ?_
  rotate_left 2
  · intro w' hk; go_simp; try rfl
  · simp only [Act.put, List.setIfInBounds_toArray, List.set_cons_succ, List.set_cons_zero]; try rfl
  refine flowe_take 18 (v := ?_) (a' := ?_) hps rfl (by kernel_rfl) rfl ?_ ?_ ?_
  rotate_left 2
  · intro w' hk; go_simp; try rfl
  · simp only [Act.put, List.setIfInBounds_toArray, List.set_cons_succ, List.set_cons_zero]; try rfl
  refine flowe_take 19 (v := ?_) (a' := ?_) hps rfl (by kernel_rfl) rfl ?_ ?_ ?_
  rotate_left 2
  · intro w' hk; go_simp; try rfl
  · simp only [Act.put, List.setIfInBounds_toArray, List.set_cons_succ, List.set_cons_zero]; try rfl
  refine flowe_take 20 (v := ?_) (a' := ?_) hps rfl (by kernel_rfl) rfl ?_ ?_ ?_
  rotate_left 2
  · intro w' hk; go_simp; try rfl
  · simp only [Act.put, List.setIfInBounds_toArray, List.set_cons_succ, List.set_cons_zero]; try rfl
  refine flowe_take 21 (v := ?_) (a' := ?_) hps rfl (by kernel_rfl) rfl ?_ ?_ ?_
  rotate_left 2
  · intro w' hk; have hc : w'.cell? ⟨p, 0, none⟩ = some (.slice aL D.L.length cL) := (by rw [cell_of_block (w := w.drew) (p := ⟨p, 0, none⟩) (hk.block p HP.out (fun h => h))]; exact HCL.out); go_simp; try rfl
  · simp only [Act.put, List.setIfInBounds_toArray, List.set_cons_succ, List.set_cons_zero]; try rfl
  refine flowe_take 22 (v := ?_) (a' := ?_) hps rfl (by kernel_rfl) rfl ?_ ?_ ?_
  rotate_left 2
  · intro w' hk; go_simp; try rfl
  · simp only [Act.put, List.setIfInBounds_toArray, List.set_cons_succ, List.set_cons_zero]; try rfl
  refine flowe_take 23 (v := ?_) (a' := ?_) hps rfl (by kernel_rfl) rfl ?_ ?_ ?_
  rotate_left 2
  · intro w' hk; go_simp; try rfl
  · simp only [Act.put, List.setIfInBounds_toArray, List.set_cons_succ, List.set_cons_zero]; try rfl
  refine flowe_take 24 (v := ?_) (a' := ?_) hps rfl (by kernel_rfl) rfl ?_ ?_ ?_
  rotate_left 2
  · intro w' hk; go_simp; try rfl
  · simp only [Act.put, List.setIfInBounds_toArray, List.set_cons_succ, List.set_cons_zero]; try rfl
  refine flowe_one 17 hps rfl (by kernel_rfl) rfl (wp_next (fun K hK => ?_))
  go_simp
  with_reducible refine (KE.out _).mono ?_
  rintro e w' ⟨rfl, rfl⟩
  refine hK _ _ (flow_step kk ?_ ?_)
  · first | exact kp | exact Keep.refl _ _ | exact (Keep.refl _ _).alloc _
  clear kk hK; try clear kp
  intro kk
  refine flowe_take 25 (v := ?_) (a' := ?_) hps rfl (by kernel_rfl) rfl ?_ ?_ ?_
  rotate_left 2
  · intro w' hk; go_simp; try rfl
  · simp only [Act.put, List.setIfInBounds_toArray, List.set_cons_succ, List.set_cons_zero]; try rfl
  refine flowe_take 26 (v := ?_) (a' := ?_) hps rfl (by kernel_rfl) rfl ?_ ?_ ?_
  rotate_left 2
  · intro w' hk; go_simp; try rfl
  · simp only [Act.put, List.setIfInBounds_toArray, List.set_cons_succ, List.set_cons_zero]; try rfl
  refine flowe_done hps (by kernel_rfl) ?_
  have H1 := Lib.hid (H.out.below (kk.below (Nat.le_refl _) fun _ _ h => h))
  have hs0 := H1.out.addOwn (Below.refl _ _) (World.ownsRow_nil _ _ 5 1)
  clear kk HP HCL e0 e1 e2 e3 e4 H
  go_wp2
  go_loopw [8, 9] (fun va vi wr => ∃ (k : Nat) (x : List UInt8), vi = .int .i64 k ∧ k ≤ secsN N ∧ x = D.secsAt A k ∧ St B w0 wr (OwB va x :: l)) (fun _ vi _ => 1000 - (intOf vi).toNat)
  case atStart => exact ⟨0, [], rfl, Nat.zero_le _, by simp [Dk.secsAt], hs0⟩
  case round =>
    obtain ⟨k, x, rfl, hk, hx, hs⟩ := hrel
    have hX := Dk.secsAt_len HG.out A k (by have := HA.out; omega)
    obtain ⟨xa, xc, rfl, hxb⟩ := St.bsOwn hs (i := 0) rfl
    have hxl : x.length = 512 * k := by rw [hx, hX]
    have hk3 : k ≤ 128 := by have := HA.out; omega
    by_cases hlt : k < secsN N
    · have hAk : A + k < D.L.length := by have := HA.out; omega
      have hoff : D.off = false := by
        rcases HOFF.out with h | h
        · have := secsN_lt.1 hlt; omega
        · exact h
      obtain ⟨hr1, hr2⟩ := Dk.read_in HG.out hoff (at_ + k) (A + k) (by have := HAT.out; omega) hAk
      have kc := rdk_Read hs (i := i + 1) HI.out (at_ + k) hm
      rw [hr1] at kc
      have hsucc := Dk.secsAt_succ D A k
      generalize hsec : lastOf D.wait (A + k) (D.L.getD (A + k) []) = sc at *
      have Hx := Lib.hid hx; have HR2 := Lib.hid hr2; have HSU := Lib.hid hsucc; have HS := Lib.hid hs
      have HXL := Lib.hid hxl
      have hxm : x.length + 512 ≤ 140737488355328 := by omega
      have hat2 : at_ ≤ 128 := by have := HAT.out; have := HA.out; omega
      clear hX hx hr1 hr2 hsucc hs hsec hxb hxl hAk hoff
      go_wp2_with fail
      with_reducible refine (KE.out _).mono ?_
      rintro e w' ⟨rfl, rfl⟩
      go_wp2_with fail
      with_reducible refine kc.mono ?_
      clear kc
      rintro e w2 ⟨a2, n2, c2, rfl, hb2, hw2⟩
      have hn2 : sc.length = n2 := hb2.len.symm
      have hb2 : Bs w2 a2 n2 c2 sc := hb2
      have hn3 : n2 = 512 := by rw [← hn2]; exact HR2.out
      subst hn3
      clear hn2
      have HS2 := Lib.hid (HS.out.below hw2)
      have HB2 := Lib.hid hb2
      clear hw2 HS hb2
      go_wp2_with (at_builtin; go_must (refine app_st rfl (.tmp 56) (.tmp 57) rfl HS2.out 0 rfl rfl _ _ _ _ rfl HB2.out hxm ?_; intro v3 w3 hs3; have HS3 := Lib.hid hs3; clear hs3))
      refine ⟨⟨k + 1, _, by go_num, hlt, ?_, HS3.out⟩, by simp [intOf]; omega⟩
      rw [HSU.out, Hx.out]
    · have hkN : k = secsN N := by omega
      subst hkN
      obtain ⟨a3, c3, hrun, hb3⟩ := piece_toA (P := Try.prog) (t := 31) (e := 5) Try.underlying31 (by kernel_rfl) hxb .i64 (N : Int) N rfl (by rw [hxl]; exact HLE.out)
      have HB3 := Lib.hid (hb3 _ hxb)
      have HS := Lib.hid hs.tail
      have Hx := Lib.hid hx
      have hN2 : N ≤ 140737488355328 := by omega
      clear hs hX hxb hx hb3 hs0 hxl
      go_wp2_with fail
      with_reducible refine (KE.out _).mono ?_
      rintro e w' ⟨rfl, rfl⟩
      go_wp2_with (at_builtin; go_must (refine app_st_new rfl (.tmp 59) (.tmp 62) rfl HS.out rfl _ _ _ _ rfl HB3.out hN2 ?_; intro v3 w3 hs3; have HS3 := Lib.hid hs3; clear hs3))
      go_ret2
      refine ⟨_, rfl, ?_⟩
      rw [← Hx.out]; exact HS3.out
set_option maxHeartbeats 4000000 in
theorem rdk_In (h : St B w0 w l) (hi : l[i]? = some (RdO p D)) (at_ n : Int) (hm : D.wait.length ≤ 1000000) (n1 : n ≤ 9223372036854775807) :
    Calls Try.prog 55 #[ptr p, .int .i64 at_, .int .i64 n] w fun e w' => ∃ v, e = .returned (.tuple #[v, .int .i64 (D.inp at_ n).1]) ∧ St B w0 w' (OwB v (D.inp at_ n).2 :: l) := by
  have hg := rdk_good h hi
  have hg1 := hg.many
  have hs0 : St B w0 w (OwB (.slice none 0 0) [] :: l) := h.addOwn (Below.refl _ _) (World.ownsRow_nil _ _ _ _)
  have H0 := Lib.hid hs0
  obtain ⟨aL, cL, _, _, hcl, _⟩ := rd_cells h.drew hi
  have hp := World.block_lt_of_cell? _ _ hcl
  simp only at hp
  have HCL := Lib.hid hcl; have HP := Lib.hid hp
  clear hs0 hcl hp
  unfold Dk.inp Dk.may
  by_cases hmay : 0 ≤ n ∧ 0 ≤ at_ ∧ at_ + secsN n.toNat ≤ D.L.length
  · obtain ⟨m1, m2, m3⟩ := hmay
    rw [if_pos (by rw [decide_eq_true_iff]; exact ⟨m1, m2, m3⟩)]
    by_cases hn : n = 0
    · rw [if_pos hn]
      subst hn
      have := rdk_In_on h hi at_ 0 hm m2 m1 m3 (.inl rfl)
      rw [show (D.secsAt at_.toNat (secsN (0 : Int).toNat)).take (0 : Int).toNat = [] from List.take_zero] at this
      exact this
    · rw [if_neg hn]
      cases hoff : D.off
      · exact rdk_In_on h hi at_ n hm m2 m1 m3 (.inr hoff)
      · obtain ⟨N, rfl⟩ := Int.eq_ofNat_of_zero_le m1
        rw [Int.toNat_natCast] at m3
        have KE : Hid (∀ w : World, Calls Try.prog 57 #[.int .i64 N] w fun e w' => e = .returned (.int .i64 (secsN N : Nat)) ∧ w = w') := Lib.hid fun w => ref_Sectors w N N rfl (by omega)
        have hr : D.read at_ = (6, []) := by unfold Dk.read; rw [if_neg (by have := @secsN_pos N (by omega); omega), if_pos hoff]
        have hsp : 0 < secsN N := by have := @secsN_pos N (by omega); omega
        have hs8 : (secsN N : Int) ≤ 128 := by omega
        have KC : Hid (∀ w1, St B w0 w1 (OwB (.slice none 0 0) [] :: l) → Calls Try.prog 134 #[ptr p, .int .i64 at_] w1 fun e w' => ∃ a n c, e = .returned (.tuple #[.slice a n c, .int .i64 6]) ∧ Below w1.heap.size w1 w') := by
          refine Lib.hid fun w1 h1 => ?_
          have kc := rdk_Read h1 (i := i + 1) hi at_ hm
          rw [hr] at kc
          refine kc.mono ?_
          rintro e w' ⟨a, n, c, rfl, _, hw⟩
          exact ⟨a, n, c, rfl, hw⟩
        show Calls _ _ _ _ fun e w' => ∃ v, e = .returned (.tuple #[v, .int .i64 6]) ∧ St B w0 w' (OwB v [] :: l)
        have e0 : decide ((N : Int) < 0) = false := by rw [decide_eq_false_iff_not]; omega
        have e1 : decide (at_ < 0) = false := by rw [decide_eq_false_iff_not]; omega
        have e2 : decide ((D.L.length : Int) < at_) = false := by rw [decide_eq_false_iff_not]; omega
        have e3 : decide ((D.L.length : Int) - at_ < (secsN N : Int)) = false := by rw [decide_eq_false_iff_not]; omega
        have e4 : IntKind.i64.wrap ((D.L.length : Int) - at_) = (D.L.length : Int) - at_ := IntWalk.i64_in _ (by omega)
        have hat : at_ ≤ 128 := by omega
        clear h hi m3 m1 hg hr hn hoff
        go_enter Try.func55, Try.ntmps55
        go_wp2
        refine flowe_begin (F := fun _ => False) hmixed 27 rfl (by repeat (first | exact ps_body | refine ps_then ?_ | refine ps_block ?_)) (fun hps => ?_)
        simp only [List.replicate]
        have kk := (Keep.refl (fun _ => False) (w)).drew
        refine flowe_take 0 (v := ?_) (a' := ?_) hps rfl (by kernel_rfl) rfl ?_ ?_ ?_
        rotate_left 2
        · intro w' hk; go_simp; try rfl
        · simp only [Act.put, List.setIfInBounds_toArray, List.set_cons_succ, List.set_cons_zero]; try rfl
        refine flowe_take 1 (v := ?_) (a' := ?_) hps rfl (by kernel_rfl) rfl ?_ ?_ ?_
        rotate_left 2
        · intro w' hk; go_simp; try rfl
        · simp only [Act.put, List.setIfInBounds_toArray, List.set_cons_succ, List.set_cons_zero]; try rfl
        refine flowe_take 2 (v := ?_) (a' := ?_) hps rfl (by kernel_rfl) rfl ?_ ?_ ?_
        rotate_left 2
        · intro w' hk; go_simp; try rfl
        · simp only [Act.put, List.setIfInBounds_toArray, List.set_cons_succ, List.set_cons_zero]; try rfl
        refine flowe_take 3 (v := ?_) (a' := ?_) hps rfl (by kernel_rfl) rfl ?_ ?_ ?_
        rotate_left 2
        · intro w' hk; go_simp; try rfl
        · simp only [Act.put, List.setIfInBounds_toArray, List.set_cons_succ, List.set_cons_zero]; try rfl
        refine flowe_take 4 (v := ?_) (a' := ?_) hps rfl (by kernel_rfl) rfl ?_ ?_ ?_
        rotate_left 2
        · intro w' hk; go_simp; try rfl
        · simp only [Act.put, List.setIfInBounds_toArray, List.set_cons_succ, List.set_cons_zero]; try rfl
        refine flowe_take 5 (v := ?_) (a' := ?_) hps rfl (by kernel_rfl) rfl ?_ ?_ ?_
        rotate_left 2
        · intro w' hk; go_simp; try rfl
        · simp only [Act.put, List.setIfInBounds_toArray, List.set_cons_succ, List.set_cons_zero]; try rfl
        refine flowe_take 6 (v := ?_) (a' := ?_) hps rfl (by kernel_rfl) rfl ?_ ?_ ?_
        rotate_left 2
        · intro w' hk; go_simp; try rfl
        · simp only [Act.put, List.setIfInBounds_toArray, List.set_cons_succ, List.set_cons_zero]; try rfl
        refine flowe_take 7 (v := ?_) (a' := ?_) hps rfl (by kernel_rfl) rfl ?_ ?_ ?_
        rotate_left 2
        · intro w' hk; go_simp; try rfl
        · simp only [Act.put, List.setIfInBounds_toArray, List.set_cons_succ, List.set_cons_zero]; try rfl
        refine flowe_take 8 (v := ?_) (a' := ?_) hps rfl (by kernel_rfl) rfl ?_ ?_ ?_
        rotate_left 2
        · intro w' hk; go_simp; try rfl
        · simp only [Act.put, List.setIfInBounds_toArray, List.set_cons_succ, List.set_cons_zero]; try rfl
        refine flowe_take 9 (v := ?_) (a' := ?_) hps rfl (by kernel_rfl) rfl ?_ ?_ ?_
        rotate_left 2
        · intro w' hk; go_simp; try rfl
        · simp only [Act.put, List.setIfInBounds_toArray, List.set_cons_succ, List.set_cons_zero]; try rfl
        refine flowe_take 10 (v := ?_) (a' := ?_) hps rfl (by kernel_rfl) rfl ?_ ?_ ?_
        rotate_left 2
        · intro w' hk; go_simp; try rfl
        · simp only [Act.put, List.setIfInBounds_toArray, List.set_cons_succ, List.set_cons_zero]; try rfl
        refine flowe_take 11 (v := ?_) (a' := ?_) hps rfl (by kernel_rfl) rfl ?_ ?_ ?_
        rotate_left 2
        · intro w' hk; have hc : w'.cell? ⟨p, 0, none⟩ = some (.slice aL D.L.length cL) := (by rw [cell_of_block (w := w.drew) (p := ⟨p, 0, none⟩) (hk.block p HP.out (fun h => h))]; exact HCL.out); go_simp; try rfl
        · simp only [Act.put, List.setIfInBounds_toArray, List.set_cons_succ, List.set_cons_zero]; try rfl
        refine flowe_take 12 (v := ?_) (a' := ?_) hps rfl (by kernel_rfl) rfl ?_ ?_ ?_
        rotate_left 2
        · intro w' hk; go_simp; try rfl
        · simp only [Act.put, List.setIfInBounds_toArray, List.set_cons_succ, List.set_cons_zero]; try rfl
        refine flowe_take 13 (v := ?_) (a' := ?_) hps rfl (by kernel_rfl) rfl ?_ ?_ ?_
        rotate_left 2
        · intro w' hk; go_simp; try rfl
        · simp only [Act.put, List.setIfInBounds_toArray, List.set_cons_succ, List.set_cons_zero]; try rfl
        refine flowe_take 14 (v := ?_) (a' := ?_) hps rfl (by kernel_rfl) rfl ?_ ?_ ?_
        rotate_left 2
        · intro w' hk; go_simp; try rfl
        · simp only [Act.put, List.setIfInBounds_toArray, List.set_cons_succ, List.set_cons_zero]; try rfl
        refine flowe_take 15 (v := ?_) (a' := ?_) hps rfl (by kernel_rfl) rfl ?_ ?_ ?_
        rotate_left 2
        · intro w' hk; go_simp; try rfl
        · simp only [Act.put, List.setIfInBounds_toArray, List.set_cons_succ, List.set_cons_zero]; try rfl
        refine flowe_take 16 (v := ?_) (a' := ?_) hps rfl (by kernel_rfl) rfl ?_ ?_ ?_
        rotate_left 2
        · intro w' hk; go_simp; try rfl
        · simp only [Act.put, List.setIfInBounds_toArray, List.set_cons_succ, List.set_cons_zero]; try rfl
        refine flowe_take 18 (v := ?_) (a' := ?_) hps rfl (by kernel_rfl) rfl ?_ ?_ ?_
        rotate_left 2
        · intro w' hk; go_simp; try rfl
        · simp only [Act.put, List.setIfInBounds_toArray, List.set_cons_succ, List.set_cons_zero]; try rfl
        refine flowe_take 19 (v := ?_) (a' := ?_) hps rfl (by kernel_rfl) rfl ?_ ?_ ?_
        rotate_left 2
        · intro w' hk; go_simp; try rfl
        · simp only [Act.put, List.setIfInBounds_toArray, List.set_cons_succ, List.set_cons_zero]; try rfl
        refine flowe_take 20 (v := ?_) (a' := ?_) hps rfl (by kernel_rfl) rfl ?_ ?_ ?_
        rotate_left 2
        · intro w' hk; go_simp; try rfl
        · simp only [Act.put, List.setIfInBounds_toArray, List.set_cons_succ, List.set_cons_zero]; try rfl
        refine flowe_take 21 (v := ?_) (a' := ?_) hps rfl (by kernel_rfl) rfl ?_ ?_ ?_
        rotate_left 2
        · intro w' hk; have hc : w'.cell? ⟨p, 0, none⟩ = some (.slice aL D.L.length cL) := (by rw [cell_of_block (w := w.drew) (p := ⟨p, 0, none⟩) (hk.block p HP.out (fun h => h))]; exact HCL.out); go_simp; try rfl
        · simp only [Act.put, List.setIfInBounds_toArray, List.set_cons_succ, List.set_cons_zero]; try rfl
        refine flowe_take 22 (v := ?_) (a' := ?_) hps rfl (by kernel_rfl) rfl ?_ ?_ ?_
        rotate_left 2
        · intro w' hk; go_simp; try rfl
        · simp only [Act.put, List.setIfInBounds_toArray, List.set_cons_succ, List.set_cons_zero]; try rfl
        refine flowe_take 23 (v := ?_) (a' := ?_) hps rfl (by kernel_rfl) rfl ?_ ?_ ?_
        rotate_left 2
        · intro w' hk; go_simp; try rfl
        · simp only [Act.put, List.setIfInBounds_toArray, List.set_cons_succ, List.set_cons_zero]; try rfl
        refine flowe_take 24 (v := ?_) (a' := ?_) hps rfl (by kernel_rfl) rfl ?_ ?_ ?_
        rotate_left 2
        · intro w' hk; go_simp; try rfl
        · simp only [Act.put, List.setIfInBounds_toArray, List.set_cons_succ, List.set_cons_zero]; try rfl
        refine flowe_one 17 hps rfl (by kernel_rfl) rfl (wp_next (fun K hK => ?_))
        go_simp
        with_reducible refine (KE.out _).mono ?_
        rintro e w' ⟨rfl, rfl⟩
        refine hK _ _ (flow_step kk ?_ ?_)
        · first | exact kp | exact Keep.refl _ _ | exact (Keep.refl _ _).alloc _
        clear kk hK; try clear kp
        intro kk
        refine flowe_take 25 (v := ?_) (a' := ?_) hps rfl (by kernel_rfl) rfl ?_ ?_ ?_
        rotate_left 2
        · intro w' hk; go_simp; try rfl
        · simp only [Act.put, List.setIfInBounds_toArray, List.set_cons_succ, List.set_cons_zero]; try rfl
        refine flowe_take 26 (v := ?_) (a' := ?_) hps rfl (by kernel_rfl) rfl ?_ ?_ ?_
        rotate_left 2
        · intro w' hk; go_simp; try rfl
        · simp only [Act.put, List.setIfInBounds_toArray, List.set_cons_succ, List.set_cons_zero]; try rfl
        refine flowe_done hps (by kernel_rfl) ?_
        have SZ := Lib.hid (H0.out.below (kk.below (Nat.le_refl _) fun _ _ h => h))
        clear kk
        go_wp2
        go_loopw [8, 9] (fun va vi wr => va = .slice none 0 0 ∧ vi = .int .i64 0 ∧ St B w0 wr (OwB (.slice none 0 0) [] :: l)) (fun _ _ _ => 0)
        case atStart => exact ⟨rfl, rfl, SZ.out⟩
        case round =>
          obtain ⟨rfl, rfl, hs⟩ := hrel
          have HS := Lib.hid hs
          clear hs
          go_wp2_with fail
          with_reducible refine (KE.out _).mono ?_
          rintro e w' ⟨rfl, rfl⟩
          go_wp2_with fail
          with_reducible refine (KC.out _ HS.out).mono ?_
          rintro e w2 ⟨a2, n2, c2, rfl, hw2⟩
          have H2 := Lib.hid (HS.out.below hw2)
          clear hw2
          go_wp2
          go_ret2
          exact ⟨_, rfl, H2.out⟩
  · rw [if_neg (by rw [decide_eq_true_iff]; exact hmay)]
    show Calls _ _ _ _ fun e w' => ∃ v, e = .returned (.tuple #[v, .int .i64 1]) ∧ St B w0 w' (OwB v [] :: l)
    by_cases g0 : n < 0
    · have e0 : decide (n < 0) = true := by rw [decide_eq_true_iff]; omega
      clear hmay h hi hg g0
      go_enter Try.func55, Try.ntmps55
      go_wp2
      refine flowe_begin (F := fun _ => False) hmixed 27 rfl (by repeat (first | exact ps_body | refine ps_then ?_ | refine ps_block ?_)) (fun hps => ?_)
      simp only [List.replicate]
      have kk := (Keep.refl (fun _ => False) (w)).drew
      refine flowe_take 0 (v := ?_) (a' := ?_) hps rfl (by kernel_rfl) rfl ?_ ?_ ?_
      rotate_left 2
      · intro w' hk; go_simp; try rfl
      · simp only [Act.put, List.setIfInBounds_toArray, List.set_cons_succ, List.set_cons_zero]; try rfl
      refine flowe_take 1 (v := ?_) (a' := ?_) hps rfl (by kernel_rfl) rfl ?_ ?_ ?_
      rotate_left 2
      · intro w' hk; go_simp; try rfl
      · simp only [Act.put, List.setIfInBounds_toArray, List.set_cons_succ, List.set_cons_zero]; try rfl
      refine flowe_take 2 (v := ?_) (a' := ?_) hps rfl (by kernel_rfl) rfl ?_ ?_ ?_
      rotate_left 2
      · intro w' hk; go_simp; try rfl
      · simp only [Act.put, List.setIfInBounds_toArray, List.set_cons_succ, List.set_cons_zero]; try rfl
      refine flowe_skip 3 (a' := ?_) hps rfl (by kernel_rfl) rfl ?_ ?_
      rotate_left 1
      · simp only [Act.put, List.setIfInBounds_toArray, List.set_cons_succ, List.set_cons_zero]; try rfl
      refine flowe_skip 4 (a' := ?_) hps rfl (by kernel_rfl) rfl ?_ ?_
      rotate_left 1
      · simp only [Act.put, List.setIfInBounds_toArray, List.set_cons_succ, List.set_cons_zero]; try rfl
      refine flowe_take 5 (v := ?_) (a' := ?_) hps rfl (by kernel_rfl) rfl ?_ ?_ ?_
      rotate_left 2
      · intro w' hk; go_simp; try rfl
      · simp only [Act.put, List.setIfInBounds_toArray, List.set_cons_succ, List.set_cons_zero]; try rfl
      refine flowe_take 6 (v := ?_) (a' := ?_) hps rfl (by kernel_rfl) rfl ?_ ?_ ?_
      rotate_left 2
      · intro w' hk; go_simp; try rfl
      · simp only [Act.put, List.setIfInBounds_toArray, List.set_cons_succ, List.set_cons_zero]; try rfl
      refine flowe_skip 7 (a' := ?_) hps rfl (by kernel_rfl) rfl ?_ ?_
      rotate_left 1
      · simp only [Act.put, List.setIfInBounds_toArray, List.set_cons_succ, List.set_cons_zero]; try rfl
      refine flowe_skip 8 (a' := ?_) hps rfl (by kernel_rfl) rfl ?_ ?_
      rotate_left 1
      · simp only [Act.put, List.setIfInBounds_toArray, List.set_cons_succ, List.set_cons_zero]; try rfl
      refine flowe_skip 9 (a' := ?_) hps rfl (by kernel_rfl) rfl ?_ ?_
      rotate_left 1
      · simp only [Act.put, List.setIfInBounds_toArray, List.set_cons_succ, List.set_cons_zero]; try rfl
      refine flowe_skip 10 (a' := ?_) hps rfl (by kernel_rfl) rfl ?_ ?_
      rotate_left 1
      · simp only [Act.put, List.setIfInBounds_toArray, List.set_cons_succ, List.set_cons_zero]; try rfl
      refine flowe_skip 11 (a' := ?_) hps rfl (by kernel_rfl) rfl ?_ ?_
      rotate_left 1
      · simp only [Act.put, List.setIfInBounds_toArray, List.set_cons_succ, List.set_cons_zero]; try rfl
      refine flowe_skip 12 (a' := ?_) hps rfl (by kernel_rfl) rfl ?_ ?_
      rotate_left 1
      · simp only [Act.put, List.setIfInBounds_toArray, List.set_cons_succ, List.set_cons_zero]; try rfl
      refine flowe_skip 13 (a' := ?_) hps rfl (by kernel_rfl) rfl ?_ ?_
      rotate_left 1
      · simp only [Act.put, List.setIfInBounds_toArray, List.set_cons_succ, List.set_cons_zero]; try rfl
      refine flowe_take 14 (v := ?_) (a' := ?_) hps rfl (by kernel_rfl) rfl ?_ ?_ ?_
      rotate_left 2
      · intro w' hk; go_simp; try rfl
      · simp only [Act.put, List.setIfInBounds_toArray, List.set_cons_succ, List.set_cons_zero]; try rfl
      refine flowe_take 15 (v := ?_) (a' := ?_) hps rfl (by kernel_rfl) rfl ?_ ?_ ?_
      rotate_left 2
      · intro w' hk; go_simp; try rfl
      · simp only [Act.put, List.setIfInBounds_toArray, List.set_cons_succ, List.set_cons_zero]; try rfl
      refine flowe_skip 16 (a' := ?_) hps rfl (by kernel_rfl) rfl ?_ ?_
      rotate_left 1
      · simp only [Act.put, List.setIfInBounds_toArray, List.set_cons_succ, List.set_cons_zero]; try rfl
      refine flowe_skip 17 (a' := ?_) hps rfl (by kernel_rfl) rfl ?_ ?_
      rotate_left 1
      · simp only [Act.put, List.setIfInBounds_toArray, List.set_cons_succ, List.set_cons_zero]; try rfl
      refine flowe_skip 18 (a' := ?_) hps rfl (by kernel_rfl) rfl ?_ ?_
      rotate_left 1
      · simp only [Act.put, List.setIfInBounds_toArray, List.set_cons_succ, List.set_cons_zero]; try rfl
      refine flowe_skip 19 (a' := ?_) hps rfl (by kernel_rfl) rfl ?_ ?_
      rotate_left 1
      · simp only [Act.put, List.setIfInBounds_toArray, List.set_cons_succ, List.set_cons_zero]; try rfl
      refine flowe_skip 20 (a' := ?_) hps rfl (by kernel_rfl) rfl ?_ ?_
      rotate_left 1
      · simp only [Act.put, List.setIfInBounds_toArray, List.set_cons_succ, List.set_cons_zero]; try rfl
      refine flowe_skip 21 (a' := ?_) hps rfl (by kernel_rfl) rfl ?_ ?_
      rotate_left 1
      · simp only [Act.put, List.setIfInBounds_toArray, List.set_cons_succ, List.set_cons_zero]; try rfl
      refine flowe_skip 22 (a' := ?_) hps rfl (by kernel_rfl) rfl ?_ ?_
      rotate_left 1
      · simp only [Act.put, List.setIfInBounds_toArray, List.set_cons_succ, List.set_cons_zero]; try rfl
      refine flowe_skip 23 (a' := ?_) hps rfl (by kernel_rfl) rfl ?_ ?_
      rotate_left 1
      · simp only [Act.put, List.setIfInBounds_toArray, List.set_cons_succ, List.set_cons_zero]; try rfl
      refine flowe_skip 24 (a' := ?_) hps rfl (by kernel_rfl) rfl ?_ ?_
      rotate_left 1
      · simp only [Act.put, List.setIfInBounds_toArray, List.set_cons_succ, List.set_cons_zero]; try rfl
      refine flowe_skip 25 (a' := ?_) hps rfl (by kernel_rfl) rfl ?_ ?_
      rotate_left 1
      · simp only [Act.put, List.setIfInBounds_toArray, List.set_cons_succ, List.set_cons_zero]; try rfl
      refine flowe_take 26 (v := ?_) (a' := ?_) hps rfl (by kernel_rfl) rfl ?_ ?_ ?_
      rotate_left 2
      · intro w' hk; go_simp; try rfl
      · simp only [Act.put, List.setIfInBounds_toArray, List.set_cons_succ, List.set_cons_zero]; try rfl
      refine flowe_done hps (by kernel_rfl) ?_
      have SZ := Lib.hid (H0.out.below (kk.below (Nat.le_refl _) fun _ _ h => h))
      clear kk
      go_wp2
      go_ret2
      exact ⟨_, rfl, SZ.out⟩
    · obtain ⟨N, rfl⟩ := Int.eq_ofNat_of_zero_le (show 0 ≤ n by omega)
      rw [Int.toNat_natCast] at hmay
      have KE := Lib.hid (ref_Sectors w.drew N N rfl (by omega))
      have e0 : decide ((N : Int) < 0) = false := by rw [decide_eq_false_iff_not]; omega
      by_cases g1 : at_ < 0
      · have e1 : decide (at_ < 0) = true := by rw [decide_eq_true_iff]; omega
        clear hmay KE h hi hg g0 g1
        go_enter Try.func55, Try.ntmps55
        go_wp2
        refine flowe_begin (F := fun _ => False) hmixed 27 rfl (by repeat (first | exact ps_body | refine ps_then ?_ | refine ps_block ?_)) (fun hps => ?_)
        simp only [List.replicate]
        have kk := (Keep.refl (fun _ => False) (w)).drew
        refine flowe_take 0 (v := ?_) (a' := ?_) hps rfl (by kernel_rfl) rfl ?_ ?_ ?_
        rotate_left 2
        · intro w' hk; go_simp; try rfl
        · simp only [Act.put, List.setIfInBounds_toArray, List.set_cons_succ, List.set_cons_zero]; try rfl
        refine flowe_take 1 (v := ?_) (a' := ?_) hps rfl (by kernel_rfl) rfl ?_ ?_ ?_
        rotate_left 2
        · intro w' hk; go_simp; try rfl
        · simp only [Act.put, List.setIfInBounds_toArray, List.set_cons_succ, List.set_cons_zero]; try rfl
        refine flowe_take 2 (v := ?_) (a' := ?_) hps rfl (by kernel_rfl) rfl ?_ ?_ ?_
        rotate_left 2
        · intro w' hk; go_simp; try rfl
        · simp only [Act.put, List.setIfInBounds_toArray, List.set_cons_succ, List.set_cons_zero]; try rfl
        refine flowe_take 3 (v := ?_) (a' := ?_) hps rfl (by kernel_rfl) rfl ?_ ?_ ?_
        rotate_left 2
        · intro w' hk; go_simp; try rfl
        · simp only [Act.put, List.setIfInBounds_toArray, List.set_cons_succ, List.set_cons_zero]; try rfl
        refine flowe_take 4 (v := ?_) (a' := ?_) hps rfl (by kernel_rfl) rfl ?_ ?_ ?_
        rotate_left 2
        · intro w' hk; go_simp; try rfl
        · simp only [Act.put, List.setIfInBounds_toArray, List.set_cons_succ, List.set_cons_zero]; try rfl
        refine flowe_take 5 (v := ?_) (a' := ?_) hps rfl (by kernel_rfl) rfl ?_ ?_ ?_
        rotate_left 2
        · intro w' hk; go_simp; try rfl
        · simp only [Act.put, List.setIfInBounds_toArray, List.set_cons_succ, List.set_cons_zero]; try rfl
        refine flowe_take 6 (v := ?_) (a' := ?_) hps rfl (by kernel_rfl) rfl ?_ ?_ ?_
        rotate_left 2
        · intro w' hk; go_simp; try rfl
        · simp only [Act.put, List.setIfInBounds_toArray, List.set_cons_succ, List.set_cons_zero]; try rfl
        refine flowe_skip 7 (a' := ?_) hps rfl (by kernel_rfl) rfl ?_ ?_
        rotate_left 1
        · simp only [Act.put, List.setIfInBounds_toArray, List.set_cons_succ, List.set_cons_zero]; try rfl
        refine flowe_skip 8 (a' := ?_) hps rfl (by kernel_rfl) rfl ?_ ?_
        rotate_left 1
        · simp only [Act.put, List.setIfInBounds_toArray, List.set_cons_succ, List.set_cons_zero]; try rfl
        refine flowe_skip 9 (a' := ?_) hps rfl (by kernel_rfl) rfl ?_ ?_
        rotate_left 1
        · simp only [Act.put, List.setIfInBounds_toArray, List.set_cons_succ, List.set_cons_zero]; try rfl
        refine flowe_skip 10 (a' := ?_) hps rfl (by kernel_rfl) rfl ?_ ?_
        rotate_left 1
        · simp only [Act.put, List.setIfInBounds_toArray, List.set_cons_succ, List.set_cons_zero]; try rfl
        refine flowe_skip 11 (a' := ?_) hps rfl (by kernel_rfl) rfl ?_ ?_
        rotate_left 1
        · simp only [Act.put, List.setIfInBounds_toArray, List.set_cons_succ, List.set_cons_zero]; try rfl
        refine flowe_skip 12 (a' := ?_) hps rfl (by kernel_rfl) rfl ?_ ?_
        rotate_left 1
        · simp only [Act.put, List.setIfInBounds_toArray, List.set_cons_succ, List.set_cons_zero]; try rfl
        refine flowe_skip 13 (a' := ?_) hps rfl (by kernel_rfl) rfl ?_ ?_
        rotate_left 1
        · simp only [Act.put, List.setIfInBounds_toArray, List.set_cons_succ, List.set_cons_zero]; try rfl
        refine flowe_take 14 (v := ?_) (a' := ?_) hps rfl (by kernel_rfl) rfl ?_ ?_ ?_
        rotate_left 2
        · intro w' hk; go_simp; try rfl
        · simp only [Act.put, List.setIfInBounds_toArray, List.set_cons_succ, List.set_cons_zero]; try rfl
        refine flowe_take 15 (v := ?_) (a' := ?_) hps rfl (by kernel_rfl) rfl ?_ ?_ ?_
        rotate_left 2
        · intro w' hk; go_simp; try rfl
        · simp only [Act.put, List.setIfInBounds_toArray, List.set_cons_succ, List.set_cons_zero]; try rfl
        refine flowe_skip 16 (a' := ?_) hps rfl (by kernel_rfl) rfl ?_ ?_
        rotate_left 1
        · simp only [Act.put, List.setIfInBounds_toArray, List.set_cons_succ, List.set_cons_zero]; try rfl
        refine flowe_skip 17 (a' := ?_) hps rfl (by kernel_rfl) rfl ?_ ?_
        rotate_left 1
        · simp only [Act.put, List.setIfInBounds_toArray, List.set_cons_succ, List.set_cons_zero]; try rfl
        refine flowe_skip 18 (a' := ?_) hps rfl (by kernel_rfl) rfl ?_ ?_
        rotate_left 1
        · simp only [Act.put, List.setIfInBounds_toArray, List.set_cons_succ, List.set_cons_zero]; try rfl
        refine flowe_skip 19 (a' := ?_) hps rfl (by kernel_rfl) rfl ?_ ?_
        rotate_left 1
        · simp only [Act.put, List.setIfInBounds_toArray, List.set_cons_succ, List.set_cons_zero]; try rfl
        refine flowe_skip 20 (a' := ?_) hps rfl (by kernel_rfl) rfl ?_ ?_
        rotate_left 1
        · simp only [Act.put, List.setIfInBounds_toArray, List.set_cons_succ, List.set_cons_zero]; try rfl
        refine flowe_skip 21 (a' := ?_) hps rfl (by kernel_rfl) rfl ?_ ?_
        rotate_left 1
        · simp only [Act.put, List.setIfInBounds_toArray, List.set_cons_succ, List.set_cons_zero]; try rfl
        refine flowe_skip 22 (a' := ?_) hps rfl (by kernel_rfl) rfl ?_ ?_
        rotate_left 1
        · simp only [Act.put, List.setIfInBounds_toArray, List.set_cons_succ, List.set_cons_zero]; try rfl
        refine flowe_skip 23 (a' := ?_) hps rfl (by kernel_rfl) rfl ?_ ?_
        rotate_left 1
        · simp only [Act.put, List.setIfInBounds_toArray, List.set_cons_succ, List.set_cons_zero]; try rfl
        refine flowe_skip 24 (a' := ?_) hps rfl (by kernel_rfl) rfl ?_ ?_
        rotate_left 1
        · simp only [Act.put, List.setIfInBounds_toArray, List.set_cons_succ, List.set_cons_zero]; try rfl
        refine flowe_skip 25 (a' := ?_) hps rfl (by kernel_rfl) rfl ?_ ?_
        rotate_left 1
        · simp only [Act.put, List.setIfInBounds_toArray, List.set_cons_succ, List.set_cons_zero]; try rfl
        refine flowe_take 26 (v := ?_) (a' := ?_) hps rfl (by kernel_rfl) rfl ?_ ?_ ?_
        rotate_left 2
        · intro w' hk; go_simp; try rfl
        · simp only [Act.put, List.setIfInBounds_toArray, List.set_cons_succ, List.set_cons_zero]; try rfl
        refine flowe_done hps (by kernel_rfl) ?_
        have SZ := Lib.hid (H0.out.below (kk.below (Nat.le_refl _) fun _ _ h => h))
        clear kk
        go_wp2
        go_ret2
        exact ⟨_, rfl, SZ.out⟩
      · have e1 : decide (at_ < 0) = false := by rw [decide_eq_false_iff_not]; omega
        by_cases g2 : D.L.length < at_
        · have e2 : decide ((D.L.length : Int) < at_) = true := by rw [decide_eq_true_iff]; omega
          clear hmay KE h hi hg g0 g1 g2
          go_enter Try.func55, Try.ntmps55
          go_wp2
          refine flowe_begin (F := fun _ => False) hmixed 27 rfl (by repeat (first | exact ps_body | refine ps_then ?_ | refine ps_block ?_)) (fun hps => ?_)
          simp only [List.replicate]
          have kk := (Keep.refl (fun _ => False) (w)).drew
          refine flowe_take 0 (v := ?_) (a' := ?_) hps rfl (by kernel_rfl) rfl ?_ ?_ ?_
          rotate_left 2
          · intro w' hk; go_simp; try rfl
          · simp only [Act.put, List.setIfInBounds_toArray, List.set_cons_succ, List.set_cons_zero]; try rfl
          refine flowe_take 1 (v := ?_) (a' := ?_) hps rfl (by kernel_rfl) rfl ?_ ?_ ?_
          rotate_left 2
          · intro w' hk; go_simp; try rfl
          · simp only [Act.put, List.setIfInBounds_toArray, List.set_cons_succ, List.set_cons_zero]; try rfl
          refine flowe_take 2 (v := ?_) (a' := ?_) hps rfl (by kernel_rfl) rfl ?_ ?_ ?_
          rotate_left 2
          · intro w' hk; go_simp; try rfl
          · simp only [Act.put, List.setIfInBounds_toArray, List.set_cons_succ, List.set_cons_zero]; try rfl
          refine flowe_take 3 (v := ?_) (a' := ?_) hps rfl (by kernel_rfl) rfl ?_ ?_ ?_
          rotate_left 2
          · intro w' hk; go_simp; try rfl
          · simp only [Act.put, List.setIfInBounds_toArray, List.set_cons_succ, List.set_cons_zero]; try rfl
          refine flowe_take 4 (v := ?_) (a' := ?_) hps rfl (by kernel_rfl) rfl ?_ ?_ ?_
          rotate_left 2
          · intro w' hk; go_simp; try rfl
          · simp only [Act.put, List.setIfInBounds_toArray, List.set_cons_succ, List.set_cons_zero]; try rfl
          refine flowe_take 5 (v := ?_) (a' := ?_) hps rfl (by kernel_rfl) rfl ?_ ?_ ?_
          rotate_left 2
          · intro w' hk; go_simp; try rfl
          · simp only [Act.put, List.setIfInBounds_toArray, List.set_cons_succ, List.set_cons_zero]; try rfl
          refine flowe_take 6 (v := ?_) (a' := ?_) hps rfl (by kernel_rfl) rfl ?_ ?_ ?_
          rotate_left 2
          · intro w' hk; go_simp; try rfl
          · simp only [Act.put, List.setIfInBounds_toArray, List.set_cons_succ, List.set_cons_zero]; try rfl
          refine flowe_take 7 (v := ?_) (a' := ?_) hps rfl (by kernel_rfl) rfl ?_ ?_ ?_
          rotate_left 2
          · intro w' hk; go_simp; try rfl
          · simp only [Act.put, List.setIfInBounds_toArray, List.set_cons_succ, List.set_cons_zero]; try rfl
          refine flowe_take 8 (v := ?_) (a' := ?_) hps rfl (by kernel_rfl) rfl ?_ ?_ ?_
          rotate_left 2
          · intro w' hk; go_simp; try rfl
          · simp only [Act.put, List.setIfInBounds_toArray, List.set_cons_succ, List.set_cons_zero]; try rfl
          refine flowe_take 9 (v := ?_) (a' := ?_) hps rfl (by kernel_rfl) rfl ?_ ?_ ?_
          rotate_left 2
          · intro w' hk; go_simp; try rfl
          · simp only [Act.put, List.setIfInBounds_toArray, List.set_cons_succ, List.set_cons_zero]; try rfl
          refine flowe_take 10 (v := ?_) (a' := ?_) hps rfl (by kernel_rfl) rfl ?_ ?_ ?_
          rotate_left 2
          · intro w' hk; go_simp; try rfl
          · simp only [Act.put, List.setIfInBounds_toArray, List.set_cons_succ, List.set_cons_zero]; try rfl
          refine flowe_take 11 (v := ?_) (a' := ?_) hps rfl (by kernel_rfl) rfl ?_ ?_ ?_
          rotate_left 2
          · intro w' hk; have hc : w'.cell? ⟨p, 0, none⟩ = some (.slice aL D.L.length cL) := (by rw [cell_of_block (w := w.drew) (p := ⟨p, 0, none⟩) (hk.block p HP.out (fun h => h))]; exact HCL.out); go_simp; try rfl
          · simp only [Act.put, List.setIfInBounds_toArray, List.set_cons_succ, List.set_cons_zero]; try rfl
          refine flowe_take 12 (v := ?_) (a' := ?_) hps rfl (by kernel_rfl) rfl ?_ ?_ ?_
          rotate_left 2
          · intro w' hk; go_simp; try rfl
          · simp only [Act.put, List.setIfInBounds_toArray, List.set_cons_succ, List.set_cons_zero]; try rfl
          refine flowe_take 13 (v := ?_) (a' := ?_) hps rfl (by kernel_rfl) rfl ?_ ?_ ?_
          rotate_left 2
          · intro w' hk; go_simp; try rfl
          · simp only [Act.put, List.setIfInBounds_toArray, List.set_cons_succ, List.set_cons_zero]; try rfl
          refine flowe_take 14 (v := ?_) (a' := ?_) hps rfl (by kernel_rfl) rfl ?_ ?_ ?_
          rotate_left 2
          · intro w' hk; go_simp; try rfl
          · simp only [Act.put, List.setIfInBounds_toArray, List.set_cons_succ, List.set_cons_zero]; try rfl
          refine flowe_take 15 (v := ?_) (a' := ?_) hps rfl (by kernel_rfl) rfl ?_ ?_ ?_
          rotate_left 2
          · intro w' hk; go_simp; try rfl
          · simp only [Act.put, List.setIfInBounds_toArray, List.set_cons_succ, List.set_cons_zero]; try rfl
          refine flowe_skip 16 (a' := ?_) hps rfl (by kernel_rfl) rfl ?_ ?_
          rotate_left 1
          · simp only [Act.put, List.setIfInBounds_toArray, List.set_cons_succ, List.set_cons_zero]; try rfl
          refine flowe_skip 17 (a' := ?_) hps rfl (by kernel_rfl) rfl ?_ ?_
          rotate_left 1
          · simp only [Act.put, List.setIfInBounds_toArray, List.set_cons_succ, List.set_cons_zero]; try rfl
          refine flowe_skip 18 (a' := ?_) hps rfl (by kernel_rfl) rfl ?_ ?_
          rotate_left 1
          · simp only [Act.put, List.setIfInBounds_toArray, List.set_cons_succ, List.set_cons_zero]; try rfl
          refine flowe_skip 19 (a' := ?_) hps rfl (by kernel_rfl) rfl ?_ ?_
          rotate_left 1
          · simp only [Act.put, List.setIfInBounds_toArray, List.set_cons_succ, List.set_cons_zero]; try rfl
          refine flowe_skip 20 (a' := ?_) hps rfl (by kernel_rfl) rfl ?_ ?_
          rotate_left 1
          · simp only [Act.put, List.setIfInBounds_toArray, List.set_cons_succ, List.set_cons_zero]; try rfl
          refine flowe_skip 21 (a' := ?_) hps rfl (by kernel_rfl) rfl ?_ ?_
          rotate_left 1
          · simp only [Act.put, List.setIfInBounds_toArray, List.set_cons_succ, List.set_cons_zero]; try rfl
          refine flowe_skip 22 (a' := ?_) hps rfl (by kernel_rfl) rfl ?_ ?_
          rotate_left 1
          · simp only [Act.put, List.setIfInBounds_toArray, List.set_cons_succ, List.set_cons_zero]; try rfl
          refine flowe_skip 23 (a' := ?_) hps rfl (by kernel_rfl) rfl ?_ ?_
          rotate_left 1
          · simp only [Act.put, List.setIfInBounds_toArray, List.set_cons_succ, List.set_cons_zero]; try rfl
          refine flowe_skip 24 (a' := ?_) hps rfl (by kernel_rfl) rfl ?_ ?_
          rotate_left 1
          · simp only [Act.put, List.setIfInBounds_toArray, List.set_cons_succ, List.set_cons_zero]; try rfl
          refine flowe_skip 25 (a' := ?_) hps rfl (by kernel_rfl) rfl ?_ ?_
          rotate_left 1
          · simp only [Act.put, List.setIfInBounds_toArray, List.set_cons_succ, List.set_cons_zero]; try rfl
          refine flowe_take 26 (v := ?_) (a' := ?_) hps rfl (by kernel_rfl) rfl ?_ ?_ ?_
          rotate_left 2
          · intro w' hk; go_simp; try rfl
          · simp only [Act.put, List.setIfInBounds_toArray, List.set_cons_succ, List.set_cons_zero]; try rfl
          refine flowe_done hps (by kernel_rfl) ?_
          have SZ := Lib.hid (H0.out.below (kk.below (Nat.le_refl _) fun _ _ h => h))
          clear kk
          go_wp2
          go_ret2
          exact ⟨_, rfl, SZ.out⟩
        · have e2 : decide ((D.L.length : Int) < at_) = false := by rw [decide_eq_false_iff_not]; omega
          have e3 : decide ((D.L.length : Int) - at_ < (secsN N : Int)) = true := by rw [decide_eq_true_iff]; omega
          have e4 : IntKind.i64.wrap ((D.L.length : Int) - at_) = (D.L.length : Int) - at_ := IntWalk.i64_in _ (by omega)
          clear hmay h hi hg g0 g1 g2
          go_enter Try.func55, Try.ntmps55
          go_wp2
          refine flowe_begin (F := fun _ => False) hmixed 27 rfl (by repeat (first | exact ps_body | refine ps_then ?_ | refine ps_block ?_)) (fun hps => ?_)
          simp only [List.replicate]
          have kk := (Keep.refl (fun _ => False) (w)).drew
          refine flowe_take 0 (v := ?_) (a' := ?_) hps rfl (by kernel_rfl) rfl ?_ ?_ ?_
          rotate_left 2
          · intro w' hk; go_simp; try rfl
          · simp only [Act.put, List.setIfInBounds_toArray, List.set_cons_succ, List.set_cons_zero]; try rfl
          refine flowe_take 1 (v := ?_) (a' := ?_) hps rfl (by kernel_rfl) rfl ?_ ?_ ?_
          rotate_left 2
          · intro w' hk; go_simp; try rfl
          · simp only [Act.put, List.setIfInBounds_toArray, List.set_cons_succ, List.set_cons_zero]; try rfl
          refine flowe_take 2 (v := ?_) (a' := ?_) hps rfl (by kernel_rfl) rfl ?_ ?_ ?_
          rotate_left 2
          · intro w' hk; go_simp; try rfl
          · simp only [Act.put, List.setIfInBounds_toArray, List.set_cons_succ, List.set_cons_zero]; try rfl
          refine flowe_take 3 (v := ?_) (a' := ?_) hps rfl (by kernel_rfl) rfl ?_ ?_ ?_
          rotate_left 2
          · intro w' hk; go_simp; try rfl
          · simp only [Act.put, List.setIfInBounds_toArray, List.set_cons_succ, List.set_cons_zero]; try rfl
          refine flowe_take 4 (v := ?_) (a' := ?_) hps rfl (by kernel_rfl) rfl ?_ ?_ ?_
          rotate_left 2
          · intro w' hk; go_simp; try rfl
          · simp only [Act.put, List.setIfInBounds_toArray, List.set_cons_succ, List.set_cons_zero]; try rfl
          refine flowe_take 5 (v := ?_) (a' := ?_) hps rfl (by kernel_rfl) rfl ?_ ?_ ?_
          rotate_left 2
          · intro w' hk; go_simp; try rfl
          · simp only [Act.put, List.setIfInBounds_toArray, List.set_cons_succ, List.set_cons_zero]; try rfl
          refine flowe_take 6 (v := ?_) (a' := ?_) hps rfl (by kernel_rfl) rfl ?_ ?_ ?_
          rotate_left 2
          · intro w' hk; go_simp; try rfl
          · simp only [Act.put, List.setIfInBounds_toArray, List.set_cons_succ, List.set_cons_zero]; try rfl
          refine flowe_take 7 (v := ?_) (a' := ?_) hps rfl (by kernel_rfl) rfl ?_ ?_ ?_
          rotate_left 2
          · intro w' hk; go_simp; try rfl
          · simp only [Act.put, List.setIfInBounds_toArray, List.set_cons_succ, List.set_cons_zero]; try rfl
          refine flowe_take 8 (v := ?_) (a' := ?_) hps rfl (by kernel_rfl) rfl ?_ ?_ ?_
          rotate_left 2
          · intro w' hk; go_simp; try rfl
          · simp only [Act.put, List.setIfInBounds_toArray, List.set_cons_succ, List.set_cons_zero]; try rfl
          refine flowe_take 9 (v := ?_) (a' := ?_) hps rfl (by kernel_rfl) rfl ?_ ?_ ?_
          rotate_left 2
          · intro w' hk; go_simp; try rfl
          · simp only [Act.put, List.setIfInBounds_toArray, List.set_cons_succ, List.set_cons_zero]; try rfl
          refine flowe_take 10 (v := ?_) (a' := ?_) hps rfl (by kernel_rfl) rfl ?_ ?_ ?_
          rotate_left 2
          · intro w' hk; go_simp; try rfl
          · simp only [Act.put, List.setIfInBounds_toArray, List.set_cons_succ, List.set_cons_zero]; try rfl
          refine flowe_take 11 (v := ?_) (a' := ?_) hps rfl (by kernel_rfl) rfl ?_ ?_ ?_
          rotate_left 2
          · intro w' hk; have hc : w'.cell? ⟨p, 0, none⟩ = some (.slice aL D.L.length cL) := (by rw [cell_of_block (w := w.drew) (p := ⟨p, 0, none⟩) (hk.block p HP.out (fun h => h))]; exact HCL.out); go_simp; try rfl
          · simp only [Act.put, List.setIfInBounds_toArray, List.set_cons_succ, List.set_cons_zero]; try rfl
          refine flowe_take 12 (v := ?_) (a' := ?_) hps rfl (by kernel_rfl) rfl ?_ ?_ ?_
          rotate_left 2
          · intro w' hk; go_simp; try rfl
          · simp only [Act.put, List.setIfInBounds_toArray, List.set_cons_succ, List.set_cons_zero]; try rfl
          refine flowe_take 13 (v := ?_) (a' := ?_) hps rfl (by kernel_rfl) rfl ?_ ?_ ?_
          rotate_left 2
          · intro w' hk; go_simp; try rfl
          · simp only [Act.put, List.setIfInBounds_toArray, List.set_cons_succ, List.set_cons_zero]; try rfl
          refine flowe_take 14 (v := ?_) (a' := ?_) hps rfl (by kernel_rfl) rfl ?_ ?_ ?_
          rotate_left 2
          · intro w' hk; go_simp; try rfl
          · simp only [Act.put, List.setIfInBounds_toArray, List.set_cons_succ, List.set_cons_zero]; try rfl
          refine flowe_take 15 (v := ?_) (a' := ?_) hps rfl (by kernel_rfl) rfl ?_ ?_ ?_
          rotate_left 2
          · intro w' hk; go_simp; try rfl
          · simp only [Act.put, List.setIfInBounds_toArray, List.set_cons_succ, List.set_cons_zero]; try rfl
          refine flowe_take 16 (v := ?_) (a' := ?_) hps rfl (by kernel_rfl) rfl ?_ ?_ ?_
          rotate_left 2
          · intro w' hk; go_simp; try rfl
          · simp only [Act.put, List.setIfInBounds_toArray, List.set_cons_succ, List.set_cons_zero]; try rfl
          refine flowe_take 18 (v := ?_) (a' := ?_) hps rfl (by kernel_rfl) rfl ?_ ?_ ?_
          rotate_left 2
          · intro w' hk; go_simp; try rfl
          · simp only [Act.put, List.setIfInBounds_toArray, List.set_cons_succ, List.set_cons_zero]; try rfl
          refine flowe_take 19 (v := ?_) (a' := ?_) hps rfl (by kernel_rfl) rfl ?_ ?_ ?_
          rotate_left 2
          · intro w' hk; go_simp; try rfl
          · simp only [Act.put, List.setIfInBounds_toArray, List.set_cons_succ, List.set_cons_zero]; try rfl
          refine flowe_take 20 (v := ?_) (a' := ?_) hps rfl (by kernel_rfl) rfl ?_ ?_ ?_
          rotate_left 2
          · intro w' hk; go_simp; try rfl
          · simp only [Act.put, List.setIfInBounds_toArray, List.set_cons_succ, List.set_cons_zero]; try rfl
          refine flowe_take 21 (v := ?_) (a' := ?_) hps rfl (by kernel_rfl) rfl ?_ ?_ ?_
          rotate_left 2
          · intro w' hk; have hc : w'.cell? ⟨p, 0, none⟩ = some (.slice aL D.L.length cL) := (by rw [cell_of_block (w := w.drew) (p := ⟨p, 0, none⟩) (hk.block p HP.out (fun h => h))]; exact HCL.out); go_simp; try rfl
          · simp only [Act.put, List.setIfInBounds_toArray, List.set_cons_succ, List.set_cons_zero]; try rfl
          refine flowe_take 22 (v := ?_) (a' := ?_) hps rfl (by kernel_rfl) rfl ?_ ?_ ?_
          rotate_left 2
          · intro w' hk; go_simp; try rfl
          · simp only [Act.put, List.setIfInBounds_toArray, List.set_cons_succ, List.set_cons_zero]; try rfl
          refine flowe_take 23 (v := ?_) (a' := ?_) hps rfl (by kernel_rfl) rfl ?_ ?_ ?_
          rotate_left 2
          · intro w' hk; go_simp; try rfl
          · simp only [Act.put, List.setIfInBounds_toArray, List.set_cons_succ, List.set_cons_zero]; try rfl
          refine flowe_take 24 (v := ?_) (a' := ?_) hps rfl (by kernel_rfl) rfl ?_ ?_ ?_
          rotate_left 2
          · intro w' hk; go_simp; try rfl
          · simp only [Act.put, List.setIfInBounds_toArray, List.set_cons_succ, List.set_cons_zero]; try rfl
          refine flowe_one 17 hps rfl (by kernel_rfl) rfl (wp_next (fun K hK => ?_))
          go_simp
          with_reducible refine KE.out.mono ?_
          rintro e w' ⟨rfl, rfl⟩
          refine hK _ _ (flow_step kk ?_ ?_)
          · first | exact kp | exact Keep.refl _ _ | exact (Keep.refl _ _).alloc _
          clear kk hK; try clear kp
          intro kk
          refine flowe_take 25 (v := ?_) (a' := ?_) hps rfl (by kernel_rfl) rfl ?_ ?_ ?_
          rotate_left 2
          · intro w' hk; go_simp; try rfl
          · simp only [Act.put, List.setIfInBounds_toArray, List.set_cons_succ, List.set_cons_zero]; try rfl
          refine flowe_take 26 (v := ?_) (a' := ?_) hps rfl (by kernel_rfl) rfl ?_ ?_ ?_
          rotate_left 2
          · intro w' hk; go_simp; try rfl
          · simp only [Act.put, List.setIfInBounds_toArray, List.set_cons_succ, List.set_cons_zero]; try rfl
          refine flowe_done hps (by kernel_rfl) ?_
          have SZ := Lib.hid (H0.out.below (kk.below (Nat.le_refl _) fun _ _ h => h))
          clear kk
          go_wp2
          go_ret2
          exact ⟨_, rfl, SZ.out⟩
end
end Go.Proofs.Ytjijniillehfoaa
