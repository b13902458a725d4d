/- Bytes on many sectors: the reference's calls. -/
import Derived.Test.YtjijniillehfoaaExt2
namespace Go.Proofs.Ytjijniillehfoaa
open Go Go.RowKit Go.Own
set_option linter.unusedVariables false
set_option maxRecDepth 100000
section
variable {B : Nat} {w0 w : World} {l : List Ob} {i p : Nat} {D : Dk}
set_option maxHeartbeats 4000000 in
theorem rdk_Out_may (h : St B w0 w l) (hi : l[i]? = some (RdO p D)) (at_ : Int) (a : Option Addr) (n c : Nat) (b : List UInt8)
    (hb : ∀ (w' : World) (D' : Dk), St B w0 w' (l.set i (RdO p D')) → Bs w' a n c b)
    (hm : D.wait.length ≤ 500000) (h0 : 0 ≤ at_) (hmay : at_ + secsN b.length ≤ D.L.length) :
    Calls Try.prog 53 #[ptr p, .int .i64 at_, .slice a n c] w fun e w' => e = .returned (.int .i64 (D.outN at_ (secsN b.length) b).1) ∧ St B w0 w' (l.set i (RdO p (D.outN at_ (secsN b.length) b).2)) := by
  have hL := (rdk_good h hi).many.2
  have h' := h
  rw [← set_same hi] at h'
  have hb0 := hb w D h'
  have hn := hb0.len
  have hcap := Sl.cap hb0; have hroom := Sl.room hb0
  subst hn
  have hle := secsN_le b.length; have hge := secsN_ge b.length
  have hlen : b.length ≤ 65536 := by omega
  obtain ⟨aL, cL, _, _, hcl, _⟩ := rd_cells h.drew hi
  have hp := World.block_lt_of_cell? _ _ hcl
  simp only at hp
  have HCL := Lib.hid hcl; have HP := Lib.hid hp
  have KE := Lib.hid (ref_Sectors w.drew b.length b.length rfl (by omega))
  have H := Lib.hid h'; have HB := Lib.hid hb; have HM := Lib.hid hmay
  have e1 : decide (at_ < 0) = false := by rw [decide_eq_false_iff_not]; omega
  have e2 : decide ((D.L.length : Int) < at_) = false := by rw [decide_eq_false_iff_not]; omega
  have e3 : decide ((D.L.length : Int) - at_ < (secsN b.length : Int)) = false := by rw [decide_eq_false_iff_not]; omega
  have e4 : IntKind.i64.wrap ((D.L.length : Int) - at_) = (D.L.length : Int) - at_ := IntWalk.i64_in _ (by omega)
  have HI := Lib.hid hi; have HLE := Lib.hid hle; have HGE := Lib.hid hge
  clear h hi hb hb0 hmay h' hcl hp hle hge
  go_enter Try.func53, Try.ntmps53
  go_wp2
  refine flowe_begin (F := fun _ => False) hmixed 24 rfl (by repeat (first | exact ps_body | refine ps_then ?_ | refine ps_block ?_)) (fun hps => ?_)
  simp only [List.replicate]
  have kk := (Keep.refl (fun _ => False) (w)).drew
  refine flowe_take 0 (v := ?_) (a' := ?_) hps rfl (by kernel_rfl) rfl ?_ ?_ ?_
  rotate_left 2
  · intro w' hk; go_simp; try rfl
  · simp only [Act.put, List.setIfInBounds_toArray, List.set_cons_succ, List.set_cons_zero]; try rfl
  refine flowe_take 1 (v := ?_) (a' := ?_) hps rfl (by kernel_rfl) rfl ?_ ?_ ?_
  rotate_left 2
  · intro w' hk; go_simp; try rfl
  · simp only [Act.put, List.setIfInBounds_toArray, List.set_cons_succ, List.set_cons_zero]; try rfl
  refine flowe_take 2 (v := ?_) (a' := ?_) hps rfl (by kernel_rfl) rfl ?_ ?_ ?_
  rotate_left 2
  · intro w' hk; go_simp; try rfl
  · simp only [Act.put, List.setIfInBounds_toArray, List.set_cons_succ, List.set_cons_zero]; try rfl
  refine flowe_take 3 (v := ?_) (a' := ?_) hps rfl (by kernel_rfl) rfl ?_ ?_ ?_
  rotate_left 2
  · intro w' hk; go_simp; try rfl
  · simp only [Act.put, List.setIfInBounds_toArray, List.set_cons_succ, List.set_cons_zero]; try rfl
  refine flowe_take 4 (v := ?_) (a' := ?_) hps rfl (by kernel_rfl) rfl ?_ ?_ ?_
  rotate_left 2
  · intro w' hk; go_simp; try rfl
  · simp only [Act.put, List.setIfInBounds_toArray, List.set_cons_succ, List.set_cons_zero]; try rfl
  refine flowe_take 5 (v := ?_) (a' := ?_) hps rfl (by kernel_rfl) rfl ?_ ?_ ?_
  rotate_left 2
  · intro w' hk; go_simp; try rfl
  · simp only [Act.put, List.setIfInBounds_toArray, List.set_cons_succ, List.set_cons_zero]; try rfl
  refine flowe_take 6 (v := ?_) (a' := ?_) hps rfl (by kernel_rfl) rfl ?_ ?_ ?_
  rotate_left 2
  · intro w' hk; go_simp; try rfl
  · simp only [Act.put, List.setIfInBounds_toArray, List.set_cons_succ, List.set_cons_zero]; try rfl
  refine flowe_take 7 (v := ?_) (a' := ?_) hps rfl (by kernel_rfl) rfl ?_ ?_ ?_
  rotate_left 2
  · intro w' hk; have hc : w'.cell? ⟨p, 0, none⟩ = some (.slice aL D.L.length cL) := (by rw [cell_of_block (w := w.drew) (p := ⟨p, 0, none⟩) (hk.block p HP.out (fun h => h))]; exact HCL.out); go_simp; try rfl
  · simp only [Act.put, List.setIfInBounds_toArray, List.set_cons_succ, List.set_cons_zero]; try rfl
  refine flowe_take 8 (v := ?_) (a' := ?_) hps rfl (by kernel_rfl) rfl ?_ ?_ ?_
  rotate_left 2
  · intro w' hk; go_simp; try rfl
  · simp only [Act.put, List.setIfInBounds_toArray, List.set_cons_succ, List.set_cons_zero]; try rfl
  refine flowe_take 9 (v := ?_) (a' := ?_) hps rfl (by kernel_rfl) rfl ?_ ?_ ?_
  rotate_left 2
  · intro w' hk; go_simp; try rfl
  · simp only [Act.put, List.setIfInBounds_toArray, List.set_cons_succ, List.set_cons_zero]; try rfl
  refine flowe_take 10 (v := ?_) (a' := ?_) hps rfl (by kernel_rfl) rfl ?_ ?_ ?_
  rotate_left 2
  · intro w' hk; go_simp; try rfl
  · simp only [Act.put, List.setIfInBounds_toArray, List.set_cons_succ, List.set_cons_zero]; try rfl
  refine flowe_take 11 (v := ?_) (a' := ?_) hps rfl (by kernel_rfl) rfl ?_ ?_ ?_
  rotate_left 2
  · intro w' hk; go_simp; try rfl
  · simp only [Act.put, List.setIfInBounds_toArray, List.set_cons_succ, List.set_cons_zero]; try rfl
  refine flowe_take 12 (v := ?_) (a' := ?_) hps rfl (by kernel_rfl) rfl ?_ ?_ ?_
  rotate_left 2
  · intro w' hk; go_simp; try rfl
  · simp only [Act.put, List.setIfInBounds_toArray, List.set_cons_succ, List.set_cons_zero]; try rfl
  refine flowe_take 13 (v := ?_) (a' := ?_) hps rfl (by kernel_rfl) rfl ?_ ?_ ?_
  rotate_left 2
  · intro w' hk; go_simp; try rfl
  · simp only [Act.put, List.setIfInBounds_toArray, List.set_cons_succ, List.set_cons_zero]; try rfl
  refine flowe_take 15 (v := ?_) (a' := ?_) hps rfl (by kernel_rfl) rfl ?_ ?_ ?_
  rotate_left 2
  · intro w' hk; go_simp; try rfl
  · simp only [Act.put, List.setIfInBounds_toArray, List.set_cons_succ, List.set_cons_zero]; try rfl
  refine flowe_take 16 (v := ?_) (a' := ?_) hps rfl (by kernel_rfl) rfl ?_ ?_ ?_
  rotate_left 2
  · intro w' hk; go_simp; try rfl
  · simp only [Act.put, List.setIfInBounds_toArray, List.set_cons_succ, List.set_cons_zero]; try rfl
  refine flowe_take 17 (v := ?_) (a' := ?_) hps rfl (by kernel_rfl) rfl ?_ ?_ ?_
  rotate_left 2
  · intro w' hk; go_simp; try rfl
  · simp only [Act.put, List.setIfInBounds_toArray, List.set_cons_succ, List.set_cons_zero]; try rfl
  refine flowe_take 18 (v := ?_) (a' := ?_) hps rfl (by kernel_rfl) rfl ?_ ?_ ?_
  rotate_left 2
  · intro w' hk; have hc : w'.cell? ⟨p, 0, none⟩ = some (.slice aL D.L.length cL) := (by rw [cell_of_block (w := w.drew) (p := ⟨p, 0, none⟩) (hk.block p HP.out (fun h => h))]; exact HCL.out); go_simp; try rfl
  · simp only [Act.put, List.setIfInBounds_toArray, List.set_cons_succ, List.set_cons_zero]; try rfl
  refine flowe_take 19 (v := ?_) (a' := ?_) hps rfl (by kernel_rfl) rfl ?_ ?_ ?_
  rotate_left 2
  · intro w' hk; go_simp; try rfl
  · simp only [Act.put, List.setIfInBounds_toArray, List.set_cons_succ, List.set_cons_zero]; try rfl
  refine flowe_take 20 (v := ?_) (a' := ?_) hps rfl (by kernel_rfl) rfl ?_ ?_ ?_
  rotate_left 2
  · intro w' hk; go_simp; try rfl
  · simp only [Act.put, List.setIfInBounds_toArray, List.set_cons_succ, List.set_cons_zero]; try rfl
  refine flowe_take 21 (v := ?_) (a' := ?_) hps rfl (by kernel_rfl) rfl ?_ ?_ ?_
  rotate_left 2
  · intro w' hk; go_simp; try rfl
  · simp only [Act.put, List.setIfInBounds_toArray, List.set_cons_succ, List.set_cons_zero]; try rfl
  refine flowe_one 14 hps rfl (by kernel_rfl) rfl (wp_next (fun K hK => ?_))
  go_simp
  with_reducible refine KE.out.mono ?_
  rintro e w' ⟨rfl, rfl⟩
  refine hK _ _ (flow_step kk ?_ ?_)
  · first | exact kp | exact Keep.refl _ _ | exact (Keep.refl _ _).alloc _
  clear kk hK; try clear kp
  intro kk
  refine flowe_take 22 (v := ?_) (a' := ?_) hps rfl (by kernel_rfl) rfl ?_ ?_ ?_
  rotate_left 2
  · intro w' hk; go_simp; try rfl
  · simp only [Act.put, List.setIfInBounds_toArray, List.set_cons_succ, List.set_cons_zero]; try rfl
  refine flowe_take 23 (v := ?_) (a' := ?_) hps rfl (by kernel_rfl) rfl ?_ ?_ ?_
  rotate_left 2
  · intro w' hk; go_simp; try rfl
  · simp only [Act.put, List.setIfInBounds_toArray, List.set_cons_succ, List.set_cons_zero]; try rfl
  refine flowe_done hps (by kernel_rfl) ?_
  have S1 := Lib.hid (H.out.below (kk.below (Nat.le_refl _) fun _ _ h => h))
  have HB1 := Lib.hid (HB.out _ _ S1.out)
  clear kk KE HP HCL e1 e2 e3 e4 H
  go_wp2_with (at_builtin; go_must (refine app_st_new rfl (.tmp 34) (.tmp 35) rfl S1.out rfl _ _ _ b rfl HB1.out (by omega) ?_; intro v1 w1 hs1; have HS1 := Lib.hid hs1; clear hs1))
  clear S1 HB1
  go_loopw [7] (fun va wr => ∃ (x : List UInt8) (k : Nat), x = b ++ List.replicate k 0 ∧ b.length + k ≤ 512 * secsN b.length ∧ St B w0 wr (OwB va x :: l.set i (RdO p D))) (fun va _ => match va with | .slice _ n _ => 70000 - n | _ => 0)
  case atStart => exact ⟨b, 0, by simp, by have := HLE.out; omega, HS1.out⟩
  case round =>
    obtain ⟨x, k, hx, hk, hs⟩ := hrel
    have hxl : x.length = b.length + k := by rw [hx, List.length_append, List.length_replicate]
    have hxm : x.length ≤ 66048 := by have := HGE.out; omega
    have HS := Lib.hid hs
    obtain ⟨xa, xc, rfl, hxb⟩ := St.bsOwn hs (i := 0) rfl
    have Hx := Lib.hid hx; have HK := Lib.hid hk; have HXL := Lib.hid hxl
    clear hs HS1 hx hxl hk
    have HS : Hid (St B w0 wr (OwB (.slice xa x.length xc) x :: l.set i (RdO p D))) := HS
    by_cases hlt : 0 < (x.length : Int) % 512
    · have hxn : x.length + 1 ≤ 140737488355328 := by omega
      have HXB := Lib.hid hxb
      clear hxb
      go_wp2_with (at_builtin; go_must (refine app_st rfl (.tmp 41) (.tmp 42) rfl (HS.out.alloc _) 0 rfl rfl _ 1 1 [0] rfl (Sl.lit _ _ [_] 1 1 rfl (by decide)) hxn ?_; intro v3 w3 hs3; have HS3 := Lib.hid hs3; clear hs3))
      obtain ⟨ya, yc, rfl, _⟩ := St.bsOwn HS3.out (i := 0) rfl
      refine ⟨⟨x ++ [0], k + 1, ?_, ?_, HS3.out⟩, ?_⟩
      · rw [Hx.out, List.replicate_succ', List.append_assoc]
      · have := HK.out; have := HXL.out
        by_cases he : b.length + k = 512 * secsN b.length
        · exfalso
          rw [HXL.out, he] at hlt
          omega
        · omega
      · show 70000 - (x ++ [0]).length < 70000 - x.length
        rw [List.length_append, List.length_singleton]; omega
    · have hxe : x.length = 512 * secsN b.length := by
        have h1 := HK.out; have h2 := HXL.out; have h3 := HLE.out; have h4 := HGE.out
        rw [← h2] at h1
        omega
      have hxp : x = padB b := by
        rw [Hx.out]; unfold padB
        rw [show k = 512 * secsN b.length - b.length by have := HXL.out; omega]
      subst hxp
      have HXB := Lib.hid hxb; have HXE := Lib.hid hxe
      have hdv : ((padB b).length : Int) / 512 = (secsN b.length : Nat) := by omega
      clear hxb hxe Hx HK HXL
      go_wp2
      go_loopw [8] (fun vi wr => ∃ (k : Nat) (D' : Dk), vi = .int .i64 k ∧ k ≤ secsN b.length ∧ St B w0 wr (OwB (.slice xa (padB b).length xc) (padB b) :: l.set i (RdO p D')) ∧ D'.wait.length ≤ 500000 + k ∧ D'.L = D.L ∧
        D.outN at_ (secsN b.length) b = D'.outN (at_ + k) (secsN b.length - k) (b.drop (512 * k))) (fun vi _ => 1000 - (intOf vi).toNat)
      case atStart => exact ⟨0, D, rfl, Nat.zero_le _, HS.out, by omega, rfl, by simp⟩
      case round =>
        obtain ⟨k, D', rfl, hk, hs, hw, hl, hR⟩ := hrel
        by_cases hlt : k < secsN b.length
        · have hbx : Bs wr xa (padB b).length xc (padB b) := by
            obtain ⟨_, _, e, h⟩ := St.bsOwn hs (i := 0) rfl
            cases e; exact h
          obtain ⟨a2, c2, hrun, hb2⟩ := pieceA (P := Try.prog) (t := 31) (e := 5) Try.underlying31 (by kernel_rfl) hbx .i64 .i64 (512 * (k : Int)) (512 * (k : Int) + 512) (512 * k) (512 * k + 512) (by omega) (by omega) (by omega) (by have := HXE.out; omega)
          have hb3 := hb2 _ hbx
          have hpc : ((padB b).take (512 * k + 512)).drop (512 * k) = secB (b.drop (512 * k)) := by
            rw [List.drop_take, show 512 * k + 512 - 512 * k = 512 by omega, padB_at b k hlt]
          rw [hpc, show 512 * k + 512 - 512 * k = 512 by omega] at hb3
          rw [show 512 * k + 512 - 512 * k = 512 by omega] at hrun
          have hi2 : (OwB (.slice xa (padB b).length xc) (padB b) :: l.set i (RdO p D'))[i + 1]? = some (RdO p D') := by
            have hil : i < l.length := (List.getElem?_eq_some_iff.1 HI.out).1
            rw [List.getElem?_cons_succ, List.getElem?_set_self hil]
          have kc := rdk_Write hs (i := i + 1) hi2 (at_ + k) a2 512 c2 (secB (b.drop (512 * k))) hb3 (by have := HM.out; omega)
          rw [List.set_cons_succ, List.set_set] at kc
          have hat2 : at_ ≤ 128 := by have := HM.out; omega
          have hk2 : k ≤ 128 := by have := HM.out; omega
          have hwl := Dk.write_wait D' (at_ + k) (secB (b.drop (512 * k)))
          have hst : D'.outN (at_ + k) (secsN b.length - k) (b.drop (512 * k)) = if (D'.write (at_ + k) (secB (b.drop (512 * k)))).1 = 0 then (D'.write (at_ + k) (secB (b.drop (512 * k)))).2.outN (at_ + k + 1) (secsN b.length - (k + 1)) (b.drop (512 * (k + 1))) else D'.write (at_ + k) (secB (b.drop (512 * k))) := by
            rw [show secsN b.length - k = (secsN b.length - (k + 1)) + 1 by omega, show b.drop (512 * (k + 1)) = (b.drop (512 * k)).drop 512 by rw [List.drop_drop]; congr 1]
            rfl
          rw [hst] at hR
          have HWL := Lib.hid hwl; have HR := Lib.hid hR; have HL := Lib.hid hl
          clear hbx hb2 hb3 hpc hi2 hwl hst hR hl hs
          by_cases hz : (D'.write (at_ + k) (secB (b.drop (512 * k)))).1 = 0
          · rw [hz] at kc
            have HZ := Lib.hid hz
            clear hz
            go_wp2_with fail
            with_reducible refine kc.mono ?_
            clear kc
            rintro e w3 ⟨rfl, hs3⟩
            have HS3 := Lib.hid hs3
            clear hs3
            go_wp2
            refine ⟨⟨k + 1, _, by go_num, hlt, HS3.out, by have := HWL.out.1; omega, by rw [HWL.out.2.1, HL.out], ?_⟩, by simp [intOf]; omega⟩
            rw [HR.out, if_pos HZ.out, show at_ + ((k + 1 : Nat) : Int) = at_ + k + 1 by omega]
          · have hz2 : ¬ (D'.write (at_ + k) (secB (b.drop (512 * k)))).1 = 0 := hz
            have HZ := Lib.hid hz
            generalize hrr : D'.write (at_ + k) (secB (b.drop (512 * k))) = rr at *
            have hb1 : (rr.1 == 0) = false := by rw [beq_eq_false_iff_ne]; exact hz
            clear hz hrr
            go_wp2_with fail
            with_reducible refine kc.mono ?_
            clear kc
            rintro e w3 ⟨rfl, hs3⟩
            have HS3 := Lib.hid hs3.tail
            clear hs3
            go_wp2
            go_ret
            rw [HR.out, if_neg HZ.out]
            exact ⟨rfl, HS3.out⟩
        · have hke : k = secsN b.length := by omega
          subst hke
          have HS5 := Lib.hid hs.tail; have HR := Lib.hid hR
          clear hs hR
          go_wp2
          go_ret
          rw [HR.out, Nat.sub_self]
          exact ⟨rfl, HS5.out⟩
set_option maxHeartbeats 4000000 in
theorem rdk_Out (h : St B w0 w l) (hi : l[i]? = some (RdO p D)) (at_ : Int) (a0 : -9223372036854775808 ≤ at_) (a1 : at_ ≤ 9223372036854775807) (a : Option Addr) (n c : Nat) (b : List UInt8)
    (hb : ∀ (w' : World) (D' : Dk), St B w0 w' (l.set i (RdO p D')) → Bs w' a n c b) (hm : D.wait.length ≤ 500000) (hbl : b.length ≤ 9223372036854775807) :
    Calls Try.prog 53 #[ptr p, .int .i64 at_, .slice a n c] w fun e w' => e = .returned (.int .i64 (D.out at_ b).1) ∧ St B w0 w' (l.set i (RdO p (D.out at_ b).2)) := by
  have hg := rdk_good h hi
  have hg1 := hg.many
  unfold Dk.out Dk.may
  by_cases hmay : 0 ≤ at_ ∧ at_ + secsN b.length ≤ D.L.length
  · have kc := rdk_Out_may h hi at_ a n c b hb hm hmay.1 hmay.2
    rw [if_pos (by rw [decide_eq_true_iff]; exact ⟨by omega, hmay.1, by rw [Int.toNat_natCast]; exact hmay.2⟩)]
    exact kc
  · rw [if_neg (by rw [decide_eq_true_iff, Int.toNat_natCast]; exact fun h => hmay h.2)]
    have h' := h
    rw [← set_same hi] at h'
    have hn := (hb w D h').len
    subst hn
    obtain ⟨aL, cL, _, _, hcl, _⟩ := rd_cells h.drew hi
    have hp := World.block_lt_of_cell? _ _ hcl
    simp only at hp
    have HCL := Lib.hid hcl; have HP := Lib.hid hp
    have KE := Lib.hid (ref_Sectors w.drew b.length b.length rfl (by omega))
    have H := Lib.hid h'
    clear h hi hb h' hg hcl hp
    show Calls _ _ _ _ fun e w' => e = .returned (.int .i64 1) ∧ St B w0 w' (l.set i (RdO p D))
    by_cases g1 : at_ < 0
    · have e1 : decide (at_ < 0) = true := by rw [decide_eq_true_iff]; omega
      clear hmay KE g1
      go_enter Try.func53, Try.ntmps53
      go_wp2
      refine flowe_begin (F := fun _ => False) hmixed 24 rfl (by repeat (first | exact ps_body | refine ps_then ?_ | refine ps_block ?_)) (fun hps => ?_)
      simp only [List.replicate]
      have kk := (Keep.refl (fun _ => False) (w)).drew
      refine flowe_take 0 (v := ?_) (a' := ?_) hps rfl (by kernel_rfl) rfl ?_ ?_ ?_
      rotate_left 2
      · intro w' hk; go_simp; try rfl
      · simp only [Act.put, List.setIfInBounds_toArray, List.set_cons_succ, List.set_cons_zero]; try rfl
      refine flowe_take 1 (v := ?_) (a' := ?_) hps rfl (by kernel_rfl) rfl ?_ ?_ ?_
      rotate_left 2
      · intro w' hk; go_simp; try rfl
      · simp only [Act.put, List.setIfInBounds_toArray, List.set_cons_succ, List.set_cons_zero]; try rfl
      refine flowe_take 2 (v := ?_) (a' := ?_) hps rfl (by kernel_rfl) rfl ?_ ?_ ?_
      rotate_left 2
      · intro w' hk; go_simp; try rfl
      · simp only [Act.put, List.setIfInBounds_toArray, List.set_cons_succ, List.set_cons_zero]; try rfl
      refine flowe_skip 3 (a' := ?_) hps rfl (by kernel_rfl) rfl ?_ ?_
      rotate_left 1
      · simp only [Act.put, List.setIfInBounds_toArray, List.set_cons_succ, List.set_cons_zero]; try rfl
      refine flowe_skip 4 (a' := ?_) hps rfl (by kernel_rfl) rfl ?_ ?_
      rotate_left 1
      · simp only [Act.put, List.setIfInBounds_toArray, List.set_cons_succ, List.set_cons_zero]; try rfl
      refine flowe_skip 5 (a' := ?_) hps rfl (by kernel_rfl) rfl ?_ ?_
      rotate_left 1
      · simp only [Act.put, List.setIfInBounds_toArray, List.set_cons_succ, List.set_cons_zero]; try rfl
      refine flowe_skip 6 (a' := ?_) hps rfl (by kernel_rfl) rfl ?_ ?_
      rotate_left 1
      · simp only [Act.put, List.setIfInBounds_toArray, List.set_cons_succ, List.set_cons_zero]; try rfl
      refine flowe_skip 7 (a' := ?_) hps rfl (by kernel_rfl) rfl ?_ ?_
      rotate_left 1
      · simp only [Act.put, List.setIfInBounds_toArray, List.set_cons_succ, List.set_cons_zero]; try rfl
      refine flowe_skip 8 (a' := ?_) hps rfl (by kernel_rfl) rfl ?_ ?_
      rotate_left 1
      · simp only [Act.put, List.setIfInBounds_toArray, List.set_cons_succ, List.set_cons_zero]; try rfl
      refine flowe_skip 9 (a' := ?_) hps rfl (by kernel_rfl) rfl ?_ ?_
      rotate_left 1
      · simp only [Act.put, List.setIfInBounds_toArray, List.set_cons_succ, List.set_cons_zero]; try rfl
      refine flowe_take 10 (v := ?_) (a' := ?_) hps rfl (by kernel_rfl) rfl ?_ ?_ ?_
      rotate_left 2
      · intro w' hk; go_simp; try rfl
      · simp only [Act.put, List.setIfInBounds_toArray, List.set_cons_succ, List.set_cons_zero]; try rfl
      refine flowe_take 11 (v := ?_) (a' := ?_) hps rfl (by kernel_rfl) rfl ?_ ?_ ?_
      rotate_left 2
      · intro w' hk; go_simp; try rfl
      · simp only [Act.put, List.setIfInBounds_toArray, List.set_cons_succ, List.set_cons_zero]; try rfl
      refine flowe_skip 12 (a' := ?_) hps rfl (by kernel_rfl) rfl ?_ ?_
      rotate_left 1
      · simp only [Act.put, List.setIfInBounds_toArray, List.set_cons_succ, List.set_cons_zero]; try rfl
      refine flowe_skip 13 (a' := ?_) hps rfl (by kernel_rfl) rfl ?_ ?_
      rotate_left 1
      · simp only [Act.put, List.setIfInBounds_toArray, List.set_cons_succ, List.set_cons_zero]; try rfl
      refine flowe_skip 14 (a' := ?_) hps rfl (by kernel_rfl) rfl ?_ ?_
      rotate_left 1
      · simp only [Act.put, List.setIfInBounds_toArray, List.set_cons_succ, List.set_cons_zero]; try rfl
      refine flowe_skip 15 (a' := ?_) hps rfl (by kernel_rfl) rfl ?_ ?_
      rotate_left 1
      · simp only [Act.put, List.setIfInBounds_toArray, List.set_cons_succ, List.set_cons_zero]; try rfl
      refine flowe_skip 16 (a' := ?_) hps rfl (by kernel_rfl) rfl ?_ ?_
      rotate_left 1
      · simp only [Act.put, List.setIfInBounds_toArray, List.set_cons_succ, List.set_cons_zero]; try rfl
      refine flowe_skip 17 (a' := ?_) hps rfl (by kernel_rfl) rfl ?_ ?_
      rotate_left 1
      · simp only [Act.put, List.setIfInBounds_toArray, List.set_cons_succ, List.set_cons_zero]; try rfl
      refine flowe_skip 18 (a' := ?_) hps rfl (by kernel_rfl) rfl ?_ ?_
      rotate_left 1
      · simp only [Act.put, List.setIfInBounds_toArray, List.set_cons_succ, List.set_cons_zero]; try rfl
      refine flowe_skip 19 (a' := ?_) hps rfl (by kernel_rfl) rfl ?_ ?_
      rotate_left 1
      · simp only [Act.put, List.setIfInBounds_toArray, List.set_cons_succ, List.set_cons_zero]; try rfl
      refine flowe_skip 20 (a' := ?_) hps rfl (by kernel_rfl) rfl ?_ ?_
      rotate_left 1
      · simp only [Act.put, List.setIfInBounds_toArray, List.set_cons_succ, List.set_cons_zero]; try rfl
      refine flowe_skip 21 (a' := ?_) hps rfl (by kernel_rfl) rfl ?_ ?_
      rotate_left 1
      · simp only [Act.put, List.setIfInBounds_toArray, List.set_cons_succ, List.set_cons_zero]; try rfl
      refine flowe_skip 22 (a' := ?_) hps rfl (by kernel_rfl) rfl ?_ ?_
      rotate_left 1
      · simp only [Act.put, List.setIfInBounds_toArray, List.set_cons_succ, List.set_cons_zero]; try rfl
      refine flowe_take 23 (v := ?_) (a' := ?_) hps rfl (by kernel_rfl) rfl ?_ ?_ ?_
      rotate_left 2
      · intro w' hk; go_simp; try rfl
      · simp only [Act.put, List.setIfInBounds_toArray, List.set_cons_succ, List.set_cons_zero]; try rfl
      refine flowe_done hps (by kernel_rfl) ?_
      have SZ := Lib.hid (H.out.below (kk.below (Nat.le_refl _) fun _ _ h => h))
      clear kk
      go_wp2
      go_ret
      exact ⟨rfl, SZ.out⟩
    · have e1 : decide (at_ < 0) = false := by rw [decide_eq_false_iff_not]; omega
      by_cases g2 : D.L.length < at_
      · have e2 : decide ((D.L.length : Int) < at_) = true := by rw [decide_eq_true_iff]; omega
        clear hmay KE g1 g2
        go_enter Try.func53, Try.ntmps53
        go_wp2
        refine flowe_begin (F := fun _ => False) hmixed 24 rfl (by repeat (first | exact ps_body | refine ps_then ?_ | refine ps_block ?_)) (fun hps => ?_)
        simp only [List.replicate]
        have kk := (Keep.refl (fun _ => False) (w)).drew
        refine flowe_take 0 (v := ?_) (a' := ?_) hps rfl (by kernel_rfl) rfl ?_ ?_ ?_
        rotate_left 2
        · intro w' hk; go_simp; try rfl
        · simp only [Act.put, List.setIfInBounds_toArray, List.set_cons_succ, List.set_cons_zero]; try rfl
        refine flowe_take 1 (v := ?_) (a' := ?_) hps rfl (by kernel_rfl) rfl ?_ ?_ ?_
        rotate_left 2
        · intro w' hk; go_simp; try rfl
        · simp only [Act.put, List.setIfInBounds_toArray, List.set_cons_succ, List.set_cons_zero]; try rfl
        refine flowe_take 2 (v := ?_) (a' := ?_) hps rfl (by kernel_rfl) rfl ?_ ?_ ?_
        rotate_left 2
        · intro w' hk; go_simp; try rfl
        · simp only [Act.put, List.setIfInBounds_toArray, List.set_cons_succ, List.set_cons_zero]; try rfl
        refine flowe_take 3 (v := ?_) (a' := ?_) hps rfl (by kernel_rfl) rfl ?_ ?_ ?_
        rotate_left 2
        · intro w' hk; go_simp; try rfl
        · simp only [Act.put, List.setIfInBounds_toArray, List.set_cons_succ, List.set_cons_zero]; try rfl
        refine flowe_take 4 (v := ?_) (a' := ?_) hps rfl (by kernel_rfl) rfl ?_ ?_ ?_
        rotate_left 2
        · intro w' hk; go_simp; try rfl
        · simp only [Act.put, List.setIfInBounds_toArray, List.set_cons_succ, List.set_cons_zero]; try rfl
        refine flowe_take 5 (v := ?_) (a' := ?_) hps rfl (by kernel_rfl) rfl ?_ ?_ ?_
        rotate_left 2
        · intro w' hk; go_simp; try rfl
        · simp only [Act.put, List.setIfInBounds_toArray, List.set_cons_succ, List.set_cons_zero]; try rfl
        refine flowe_take 6 (v := ?_) (a' := ?_) hps rfl (by kernel_rfl) rfl ?_ ?_ ?_
        rotate_left 2
        · intro w' hk; go_simp; try rfl
        · simp only [Act.put, List.setIfInBounds_toArray, List.set_cons_succ, List.set_cons_zero]; try rfl
        refine flowe_take 7 (v := ?_) (a' := ?_) hps rfl (by kernel_rfl) rfl ?_ ?_ ?_
        rotate_left 2
        · intro w' hk; have hc : w'.cell? ⟨p, 0, none⟩ = some (.slice aL D.L.length cL) := (by rw [cell_of_block (w := w.drew) (p := ⟨p, 0, none⟩) (hk.block p HP.out (fun h => h))]; exact HCL.out); go_simp; try rfl
        · simp only [Act.put, List.setIfInBounds_toArray, List.set_cons_succ, List.set_cons_zero]; try rfl
        refine flowe_take 8 (v := ?_) (a' := ?_) hps rfl (by kernel_rfl) rfl ?_ ?_ ?_
        rotate_left 2
        · intro w' hk; go_simp; try rfl
        · simp only [Act.put, List.setIfInBounds_toArray, List.set_cons_succ, List.set_cons_zero]; try rfl
        refine flowe_take 9 (v := ?_) (a' := ?_) hps rfl (by kernel_rfl) rfl ?_ ?_ ?_
        rotate_left 2
        · intro w' hk; go_simp; try rfl
        · simp only [Act.put, List.setIfInBounds_toArray, List.set_cons_succ, List.set_cons_zero]; try rfl
        refine flowe_take 10 (v := ?_) (a' := ?_) hps rfl (by kernel_rfl) rfl ?_ ?_ ?_
        rotate_left 2
        · intro w' hk; go_simp; try rfl
        · simp only [Act.put, List.setIfInBounds_toArray, List.set_cons_succ, List.set_cons_zero]; try rfl
        refine flowe_take 11 (v := ?_) (a' := ?_) hps rfl (by kernel_rfl) rfl ?_ ?_ ?_
        rotate_left 2
        · intro w' hk; go_simp; try rfl
        · simp only [Act.put, List.setIfInBounds_toArray, List.set_cons_succ, List.set_cons_zero]; try rfl
        refine flowe_skip 12 (a' := ?_) hps rfl (by kernel_rfl) rfl ?_ ?_
        rotate_left 1
        · simp only [Act.put, List.setIfInBounds_toArray, List.set_cons_succ, List.set_cons_zero]; try rfl
        refine flowe_skip 13 (a' := ?_) hps rfl (by kernel_rfl) rfl ?_ ?_
        rotate_left 1
        · simp only [Act.put, List.setIfInBounds_toArray, List.set_cons_succ, List.set_cons_zero]; try rfl
        refine flowe_skip 14 (a' := ?_) hps rfl (by kernel_rfl) rfl ?_ ?_
        rotate_left 1
        · simp only [Act.put, List.setIfInBounds_toArray, List.set_cons_succ, List.set_cons_zero]; try rfl
        refine flowe_skip 15 (a' := ?_) hps rfl (by kernel_rfl) rfl ?_ ?_
        rotate_left 1
        · simp only [Act.put, List.setIfInBounds_toArray, List.set_cons_succ, List.set_cons_zero]; try rfl
        refine flowe_skip 16 (a' := ?_) hps rfl (by kernel_rfl) rfl ?_ ?_
        rotate_left 1
        · simp only [Act.put, List.setIfInBounds_toArray, List.set_cons_succ, List.set_cons_zero]; try rfl
        refine flowe_skip 17 (a' := ?_) hps rfl (by kernel_rfl) rfl ?_ ?_
        rotate_left 1
        · simp only [Act.put, List.setIfInBounds_toArray, List.set_cons_succ, List.set_cons_zero]; try rfl
        refine flowe_skip 18 (a' := ?_) hps rfl (by kernel_rfl) rfl ?_ ?_
        rotate_left 1
        · simp only [Act.put, List.setIfInBounds_toArray, List.set_cons_succ, List.set_cons_zero]; try rfl
        refine flowe_skip 19 (a' := ?_) hps rfl (by kernel_rfl) rfl ?_ ?_
        rotate_left 1
        · simp only [Act.put, List.setIfInBounds_toArray, List.set_cons_succ, List.set_cons_zero]; try rfl
        refine flowe_skip 20 (a' := ?_) hps rfl (by kernel_rfl) rfl ?_ ?_
        rotate_left 1
        · simp only [Act.put, List.setIfInBounds_toArray, List.set_cons_succ, List.set_cons_zero]; try rfl
        refine flowe_skip 21 (a' := ?_) hps rfl (by kernel_rfl) rfl ?_ ?_
        rotate_left 1
        · simp only [Act.put, List.setIfInBounds_toArray, List.set_cons_succ, List.set_cons_zero]; try rfl
        refine flowe_skip 22 (a' := ?_) hps rfl (by kernel_rfl) rfl ?_ ?_
        rotate_left 1
        · simp only [Act.put, List.setIfInBounds_toArray, List.set_cons_succ, List.set_cons_zero]; try rfl
        refine flowe_take 23 (v := ?_) (a' := ?_) hps rfl (by kernel_rfl) rfl ?_ ?_ ?_
        rotate_left 2
        · intro w' hk; go_simp; try rfl
        · simp only [Act.put, List.setIfInBounds_toArray, List.set_cons_succ, List.set_cons_zero]; try rfl
        refine flowe_done hps (by kernel_rfl) ?_
        have SZ := Lib.hid (H.out.below (kk.below (Nat.le_refl _) fun _ _ h => h))
        clear kk
        go_wp2
        go_ret
        exact ⟨rfl, SZ.out⟩
      · have e2 : decide ((D.L.length : Int) < at_) = false := by rw [decide_eq_false_iff_not]; omega
        have e3 : decide ((D.L.length : Int) - at_ < (secsN b.length : Int)) = true := by rw [decide_eq_true_iff]; omega
        have e4 : IntKind.i64.wrap ((D.L.length : Int) - at_) = (D.L.length : Int) - at_ := IntWalk.i64_in _ (by omega)
        clear hmay g1 g2
        go_enter Try.func53, Try.ntmps53
        go_wp2
        refine flowe_begin (F := fun _ => False) hmixed 24 rfl (by repeat (first | exact ps_body | refine ps_then ?_ | refine ps_block ?_)) (fun hps => ?_)
        simp only [List.replicate]
        have kk := (Keep.refl (fun _ => False) (w)).drew
        refine flowe_take 0 (v := ?_) (a' := ?_) hps rfl (by kernel_rfl) rfl ?_ ?_ ?_
        rotate_left 2
        · intro w' hk; go_simp; try rfl
        · simp only [Act.put, List.setIfInBounds_toArray, List.set_cons_succ, List.set_cons_zero]; try rfl
        refine flowe_take 1 (v := ?_) (a' := ?_) hps rfl (by kernel_rfl) rfl ?_ ?_ ?_
        rotate_left 2
        · intro w' hk; go_simp; try rfl
        · simp only [Act.put, List.setIfInBounds_toArray, List.set_cons_succ, List.set_cons_zero]; try rfl
        refine flowe_take 2 (v := ?_) (a' := ?_) hps rfl (by kernel_rfl) rfl ?_ ?_ ?_
        rotate_left 2
        · intro w' hk; go_simp; try rfl
        · simp only [Act.put, List.setIfInBounds_toArray, List.set_cons_succ, List.set_cons_zero]; try rfl
        refine flowe_take 3 (v := ?_) (a' := ?_) hps rfl (by kernel_rfl) rfl ?_ ?_ ?_
        rotate_left 2
        · intro w' hk; go_simp; try rfl
        · simp only [Act.put, List.setIfInBounds_toArray, List.set_cons_succ, List.set_cons_zero]; try rfl
        refine flowe_take 4 (v := ?_) (a' := ?_) hps rfl (by kernel_rfl) rfl ?_ ?_ ?_
        rotate_left 2
        · intro w' hk; go_simp; try rfl
        · simp only [Act.put, List.setIfInBounds_toArray, List.set_cons_succ, List.set_cons_zero]; try rfl
        refine flowe_take 5 (v := ?_) (a' := ?_) hps rfl (by kernel_rfl) rfl ?_ ?_ ?_
        rotate_left 2
        · intro w' hk; go_simp; try rfl
        · simp only [Act.put, List.setIfInBounds_toArray, List.set_cons_succ, List.set_cons_zero]; try rfl
        refine flowe_take 6 (v := ?_) (a' := ?_) hps rfl (by kernel_rfl) rfl ?_ ?_ ?_
        rotate_left 2
        · intro w' hk; go_simp; try rfl
        · simp only [Act.put, List.setIfInBounds_toArray, List.set_cons_succ, List.set_cons_zero]; try rfl
        refine flowe_take 7 (v := ?_) (a' := ?_) hps rfl (by kernel_rfl) rfl ?_ ?_ ?_
        rotate_left 2
        · intro w' hk; have hc : w'.cell? ⟨p, 0, none⟩ = some (.slice aL D.L.length cL) := (by rw [cell_of_block (w := w.drew) (p := ⟨p, 0, none⟩) (hk.block p HP.out (fun h => h))]; exact HCL.out); go_simp; try rfl
        · simp only [Act.put, List.setIfInBounds_toArray, List.set_cons_succ, List.set_cons_zero]; try rfl
        refine flowe_take 8 (v := ?_) (a' := ?_) hps rfl (by kernel_rfl) rfl ?_ ?_ ?_
        rotate_left 2
        · intro w' hk; go_simp; try rfl
        · simp only [Act.put, List.setIfInBounds_toArray, List.set_cons_succ, List.set_cons_zero]; try rfl
        refine flowe_take 9 (v := ?_) (a' := ?_) hps rfl (by kernel_rfl) rfl ?_ ?_ ?_
        rotate_left 2
        · intro w' hk; go_simp; try rfl
        · simp only [Act.put, List.setIfInBounds_toArray, List.set_cons_succ, List.set_cons_zero]; try rfl
        refine flowe_take 10 (v := ?_) (a' := ?_) hps rfl (by kernel_rfl) rfl ?_ ?_ ?_
        rotate_left 2
        · intro w' hk; go_simp; try rfl
        · simp only [Act.put, List.setIfInBounds_toArray, List.set_cons_succ, List.set_cons_zero]; try rfl
        refine flowe_take 11 (v := ?_) (a' := ?_) hps rfl (by kernel_rfl) rfl ?_ ?_ ?_
        rotate_left 2
        · intro w' hk; go_simp; try rfl
        · simp only [Act.put, List.setIfInBounds_toArray, List.set_cons_succ, List.set_cons_zero]; try rfl
        refine flowe_take 12 (v := ?_) (a' := ?_) hps rfl (by kernel_rfl) rfl ?_ ?_ ?_
        rotate_left 2
        · intro w' hk; go_simp; try rfl
        · simp only [Act.put, List.setIfInBounds_toArray, List.set_cons_succ, List.set_cons_zero]; try rfl
        refine flowe_take 13 (v := ?_) (a' := ?_) hps rfl (by kernel_rfl) rfl ?_ ?_ ?_
        rotate_left 2
        · intro w' hk; go_simp; try rfl
        · simp only [Act.put, List.setIfInBounds_toArray, List.set_cons_succ, List.set_cons_zero]; try rfl
        refine flowe_take 15 (v := ?_) (a' := ?_) hps rfl (by kernel_rfl) rfl ?_ ?_ ?_
        rotate_left 2
        · intro w' hk; go_simp; try rfl
        · simp only [Act.put, List.setIfInBounds_toArray, List.set_cons_succ, List.set_cons_zero]; try rfl
        refine flowe_take 16 (v := ?_) (a' := ?_) hps rfl (by kernel_rfl) rfl ?_ ?_ ?_
        rotate_left 2
        · intro w' hk; go_simp; try rfl
        · simp only [Act.put, List.setIfInBounds_toArray, List.set_cons_succ, List.set_cons_zero]; try rfl
        refine flowe_take 17 (v := ?_) (a' := ?_) hps rfl (by kernel_rfl) rfl ?_ ?_ ?_
        rotate_left 2
        · intro w' hk; go_simp; try rfl
        · simp only [Act.put, List.setIfInBounds_toArray, List.set_cons_succ, List.set_cons_zero]; try rfl
        refine flowe_take 18 (v := ?_) (a' := ?_) hps rfl (by kernel_rfl) rfl ?_ ?_ ?_
        rotate_left 2
        · intro w' hk; have hc : w'.cell? ⟨p, 0, none⟩ = some (.slice aL D.L.length cL) := (by rw [cell_of_block (w := w.drew) (p := ⟨p, 0, none⟩) (hk.block p HP.out (fun h => h))]; exact HCL.out); go_simp; try rfl
        · simp only [Act.put, List.setIfInBounds_toArray, List.set_cons_succ, List.set_cons_zero]; try rfl
        refine flowe_take 19 (v := ?_) (a' := ?_) hps rfl (by kernel_rfl) rfl ?_ ?_ ?_
        rotate_left 2
        · intro w' hk; go_simp; try rfl
        · simp only [Act.put, List.setIfInBounds_toArray, List.set_cons_succ, List.set_cons_zero]; try rfl
        refine flowe_take 20 (v := ?_) (a' := ?_) hps rfl (by kernel_rfl) rfl ?_ ?_ ?_
        rotate_left 2
        · intro w' hk; go_simp; try rfl
        · simp only [Act.put, List.setIfInBounds_toArray, List.set_cons_succ, List.set_cons_zero]; try rfl
        refine flowe_take 21 (v := ?_) (a' := ?_) hps rfl (by kernel_rfl) rfl ?_ ?_ ?_
        rotate_left 2
        · intro w' hk; go_simp; try rfl
        · simp only [Act.put, List.setIfInBounds_toArray, List.set_cons_succ, List.set_cons_zero]; try rfl
        refine flowe_one 14 hps rfl (by kernel_rfl) rfl (wp_next (fun K hK => ?_))
        go_simp
        with_reducible refine KE.out.mono ?_
        rintro e w' ⟨rfl, rfl⟩
        refine hK _ _ (flow_step kk ?_ ?_)
        · first | exact kp | exact Keep.refl _ _ | exact (Keep.refl _ _).alloc _
        clear kk hK; try clear kp
        intro kk
        refine flowe_take 22 (v := ?_) (a' := ?_) hps rfl (by kernel_rfl) rfl ?_ ?_ ?_
        rotate_left 2
        · intro w' hk; go_simp; try rfl
        · simp only [Act.put, List.setIfInBounds_toArray, List.set_cons_succ, List.set_cons_zero]; try rfl
        refine flowe_take 23 (v := ?_) (a' := ?_) hps rfl (by kernel_rfl) rfl ?_ ?_ ?_
        rotate_left 2
        · intro w' hk; go_simp; try rfl
        · simp only [Act.put, List.setIfInBounds_toArray, List.set_cons_succ, List.set_cons_zero]; try rfl
        refine flowe_done hps (by kernel_rfl) ?_
        have SZ := Lib.hid (H.out.below (kk.below (Nat.le_refl _) fun _ _ h => h))
        clear kk
        go_wp2
        go_ret
        exact ⟨rfl, SZ.out⟩
end
end Go.Proofs.Ytjijniillehfoaa
