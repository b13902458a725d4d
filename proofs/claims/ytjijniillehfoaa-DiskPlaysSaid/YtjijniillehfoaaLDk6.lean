/- cantlelaw04.Do: a deed, with a disk and the reference's. -/
import Derived.Test.YtjijniillehfoaaLDk
namespace Go.Proofs.Ytjijniillehfoaa
open Go Go.RowKit Go.Own
set_option linter.unusedVariables false
set_option maxRecDepth 100000
def DoOk4 (B : Nat) (w0 : World) (p q : Nat) (D : Dk) (r : List Ob) (e : Ending) (w' : World) : Prop :=
  e = .returned (.int .i64 1) ∧ ∃ D' : Dk, D'.wait.length ≤ D.wait.length + 1 ∧ St B w0 w' (DkO p D' :: RdO q D' :: r)
set_option maxHeartbeats 4000000 in
theorem law04_Do {B : Nat} {w0 : World} (w : World) (p q : Nat) (D : Dk) (r : List Ob) (h : St B w0 w (DkO p D :: RdO q D :: r)) (hmany : D.wait.length ≤ 1000) (d : De4) (hd : d.Ok w0)
    (hbB : ∀ x, d.ba = some x → 0 < d.b.length → x.block < B) (hkB : ∀ x, d.ka = some x → 0 < d.k.length → x.block < B) :
    Calls Try.prog 38 #[ptr p, ptr q, .agg d.cells.toArray] w (DoOk4 B w0 p q D r) := by
  have h1 := h.addRow 33 d.cells
  obtain ⟨dw, di, dn, db, dk⟩ := hd
  obtain ⟨bx, hbx⟩ : ∃ bx, bx = w.heap.size := ⟨_, rfl⟩
  obtain ⟨what, i, n, x, ba, bn, bc, b, ka, kn, kc, kl⟩ := d
  simp only at dw di dn db dk hbB hkB
  have hbn := db.len
  subst hbn
  have cb := Sl.cap db; have rb := Sl.room db
  have DB := Lib.hid db; have DBB := Lib.hid hbB; have DK := Lib.hid dk; have DKB := Lib.hid hkB
  clear h db hbB dk hkB
  unfold De4.cells at h1 ⊢
  simp only at h1 ⊢
  go_enter Try.func38, Try.ntmps38
  rw [← hbx] at h1
  have HBX := Lib.hid hbx
  clear hbx
  by_cases hb0 : b.length = 0
  · have hbe : ((b.length : Int) == 0) = true := by rw [beq_iff_eq]; omega
    have HB0 := Lib.hid hb0; clear hb0
    go_wp2_with fail
    rw [← HBX.out]
    generalize w.alloc (.cells [.int .i64 what, .int .i64 i, .int .i64 n, bv x, .slice ba b.length bc, .slice ka kn kc].toArray 33 (0, 0)) = W1 at h1 ⊢
    have H1 := Lib.hid h1
    clear h1
    refine (law_Sector W1 x).mono ?_
    rintro e W2 ⟨v1, rfl, o1, b1⟩
    obtain ⟨a1, c1, rfl, hn1, hB1⟩ := bsOf o1 (secOf_len x)
    have S2 := Lib.hid (H1.out.addBs b1 hB1 fun q hq _ => hn1 q hq)
    clear o1 b1 hn1 hB1
    have q0 := (S2.out.row (i := 1) rfl).cell 0
    simp only [List.getElem?_cons_succ, List.getElem?_cons_zero] at q0
    go_wp2_with fail
    have kk9 := law_Pick W2 what 8 dw.1 dw.2 (by decide) (by decide)
    with_reducible refine kk9.mono ?_
    clear kk9
    rintro e w' ⟨rfl, rfl⟩
    generalize what % 8 = m
    by_cases h3 : m = 3
    · subst h3
      have q1 := (S2.out.row (i := 1) rfl).cell 1
      simp only [List.getElem?_cons_succ, List.getElem?_cons_zero] at q1
      go_wp2_with fail
      have kk9 := dk_Read S2.out (i := 2) rfl i (by omega)
      with_reducible refine kk9.mono ?_
      clear kk9
      rintro e w3 ⟨a2, n2, c2, rfl, hb2, b2⟩
      have S3 := Lib.hid (S2.out.below b2)
      have HB2 := Lib.hid hb2
      clear hb2 b2
      have q1' := (S3.out.row (i := 1) rfl).cell 1
      simp only [List.getElem?_cons_succ, List.getElem?_cons_zero] at q1'
      go_wp2_with fail
      have kk9 := rdk_Read S3.out (i := 3) rfl i (by omega)
      with_reducible refine kk9.mono ?_
      clear kk9
      rintro e w4 ⟨a3, n3, c3, rfl, hb3, b3⟩
      have hs2 := run_s w4 (HB2.out.below b3)
      have hs3 := run_s w4 hb3
      have SZ := Lib.hid (S3.out.below b3)
      have hrc := Dk.read_code D i
      generalize (D.read i).1 = rc at *
      have hlen : D.wait.length ≤ D.wait.length + 1 := Nat.le_succ _
      clear hb3 b3
      go_wp2_with fail
      have kk9 := code_err w4 rc hrc.1 hrc.2
      with_reducible refine kk9.mono ?_
      clear kk9
      rintro e w' ⟨rfl, rfl⟩
      go_wp2_with fail
      clear hs2 hs3
      have SZd := Lib.hid SZ.out.drew
      obtain ⟨_, _, aW, cW, _, hcw⟩ := rd_cells SZd.out (i := 3) rfl
      go_wp2
      refine flows_begin (S := (fun w' => w'.cell? ⟨q, 1, none⟩ = some (.slice aW (D).wait.length cW))) hmixed 8 rfl (by repeat (first | exact ps_body | refine ps_then ?_ | refine ps_block ?_)) hcw (fun hps => ?_)
      simp only [List.replicate]
      refine flows_take 0 (v := ?_) (a' := ?_) hps rfl (by kernel_rfl) rfl ?_ ?_ ?_
      rotate_left 2
      · intro w' hk; go_simp; try rfl
      · simp only [Act.put, List.setIfInBounds_toArray, List.set_cons_succ, List.set_cons_zero]; try rfl
      refine flows_take 2 (v := ?_) (a' := ?_) hps rfl (by kernel_rfl) rfl ?_ ?_ ?_
      rotate_left 2
      · intro w' hk; go_simp; try rfl
      · simp only [Act.put, List.setIfInBounds_toArray, List.set_cons_succ, List.set_cons_zero]; try rfl
      refine flows_take 3 (v := ?_) (a' := ?_) hps rfl (by kernel_rfl) rfl ?_ ?_ ?_
      rotate_left 2
      · intro w' hk; go_simp; try rfl
      · simp only [Act.put, List.setIfInBounds_toArray, List.set_cons_succ, List.set_cons_zero]; try rfl
      refine flows_take 4 (v := ?_) (a' := ?_) hps rfl (by kernel_rfl) rfl ?_ ?_ ?_
      rotate_left 2
      · intro w' hk; go_simp; try rfl
      · simp only [Act.put, List.setIfInBounds_toArray, List.set_cons_succ, List.set_cons_zero]; try rfl
      refine flows_take 5 (v := ?_) (a' := ?_) hps rfl (by kernel_rfl) rfl ?_ ?_ ?_
      rotate_left 2
      · intro w' hk; have hc := hk; go_simp; try rfl
      · simp only [Act.put, List.setIfInBounds_toArray, List.set_cons_succ, List.set_cons_zero]; try rfl
      refine flows_take 6 (v := ?_) (a' := ?_) hps rfl (by kernel_rfl) rfl ?_ ?_ ?_
      rotate_left 2
      · intro w' hk; go_simp; try rfl
      · simp only [Act.put, List.setIfInBounds_toArray, List.set_cons_succ, List.set_cons_zero]; try rfl
      refine flows_one 1 hps rfl (by kernel_rfl) rfl (wp_next (fun K hK => ?_))
      go_simp
      have kk9 := dk_Waiting SZd.out (i := 2) rfl
      with_reducible refine kk9.mono ?_
      clear kk9
      rintro e w' ⟨rfl, rfl⟩
      have kp := hcw
      refine hK _ _ ⟨kp, ?_⟩
      clear kp hK
      refine flows_take 7 (v := ?_) (a' := ?_) hps rfl (by kernel_rfl) rfl ?_ ?_ ?_
      rotate_left 2
      · intro w' hk; go_simp; try rfl
      · simp only [Act.put, List.setIfInBounds_toArray, List.set_cons_succ, List.set_cons_zero]; try rfl
      refine flows_done hps (by kernel_rfl) ?_
      go_wp2
      go_ret
      exact ⟨rfl, D, hlen, SZd.out.tail.tail⟩
    have e3 : (m == 3) = false := by rw [beq_eq_false_iff_ne]; exact h3
    clear h3
    by_cases h4 : m = 4
    · subst h4
      go_wp2_with fail
      have kk9 := dk_Flush S2.out (i := 2) rfl (by omega)
      with_reducible refine kk9.mono ?_
      clear kk9
      rintro e w3 ⟨rfl, s3⟩
      have S3 := Lib.hid s3
      clear s3
      have hrc := Dk.flush_code D
      have hlen : D.flush.2.wait.length ≤ D.wait.length + 1 := by unfold Dk.flush; split; exact Nat.le_succ _; exact Nat.zero_le _
      go_wp2_with fail
      have kk9 := code_err w3 D.flush.1 hrc.1 hrc.2
      with_reducible refine kk9.mono ?_
      clear kk9
      rintro e w' ⟨rfl, rfl⟩
      go_wp2_with fail
      have kk9 := rdk_Flush S3.out (i := 3) rfl (by omega)
      with_reducible refine kk9.mono ?_
      clear kk9
      rintro e w4 ⟨rfl, s4⟩
      have SZ := Lib.hid s4
      clear s4
      generalize D.flush.1 = rc at *
      go_wp2_with fail
      have SZd := Lib.hid SZ.out.drew
      obtain ⟨_, _, aW, cW, _, hcw⟩ := rd_cells SZd.out (i := 3) rfl
      go_wp2
      refine flows_begin (S := (fun w' => w'.cell? ⟨q, 1, none⟩ = some (.slice aW (D.flush.2).wait.length cW))) hmixed 8 rfl (by repeat (first | exact ps_body | refine ps_then ?_ | refine ps_block ?_)) hcw (fun hps => ?_)
      simp only [List.replicate]
      refine flows_take 0 (v := ?_) (a' := ?_) hps rfl (by kernel_rfl) rfl ?_ ?_ ?_
      rotate_left 2
      · intro w' hk; go_simp; try rfl
      · simp only [Act.put, List.setIfInBounds_toArray, List.set_cons_succ, List.set_cons_zero]; try rfl
      refine flows_take 2 (v := ?_) (a' := ?_) hps rfl (by kernel_rfl) rfl ?_ ?_ ?_
      rotate_left 2
      · intro w' hk; go_simp; try rfl
      · simp only [Act.put, List.setIfInBounds_toArray, List.set_cons_succ, List.set_cons_zero]; try rfl
      refine flows_take 3 (v := ?_) (a' := ?_) hps rfl (by kernel_rfl) rfl ?_ ?_ ?_
      rotate_left 2
      · intro w' hk; go_simp; try rfl
      · simp only [Act.put, List.setIfInBounds_toArray, List.set_cons_succ, List.set_cons_zero]; try rfl
      refine flows_take 4 (v := ?_) (a' := ?_) hps rfl (by kernel_rfl) rfl ?_ ?_ ?_
      rotate_left 2
      · intro w' hk; go_simp; try rfl
      · simp only [Act.put, List.setIfInBounds_toArray, List.set_cons_succ, List.set_cons_zero]; try rfl
      refine flows_take 5 (v := ?_) (a' := ?_) hps rfl (by kernel_rfl) rfl ?_ ?_ ?_
      rotate_left 2
      · intro w' hk; have hc := hk; go_simp; try rfl
      · simp only [Act.put, List.setIfInBounds_toArray, List.set_cons_succ, List.set_cons_zero]; try rfl
      refine flows_take 6 (v := ?_) (a' := ?_) hps rfl (by kernel_rfl) rfl ?_ ?_ ?_
      rotate_left 2
      · intro w' hk; go_simp; try rfl
      · simp only [Act.put, List.setIfInBounds_toArray, List.set_cons_succ, List.set_cons_zero]; try rfl
      refine flows_one 1 hps rfl (by kernel_rfl) rfl (wp_next (fun K hK => ?_))
      go_simp
      have kk9 := dk_Waiting SZd.out (i := 2) rfl
      with_reducible refine kk9.mono ?_
      clear kk9
      rintro e w' ⟨rfl, rfl⟩
      have kp := hcw
      refine hK _ _ ⟨kp, ?_⟩
      clear kp hK
      refine flows_take 7 (v := ?_) (a' := ?_) hps rfl (by kernel_rfl) rfl ?_ ?_ ?_
      rotate_left 2
      · intro w' hk; go_simp; try rfl
      · simp only [Act.put, List.setIfInBounds_toArray, List.set_cons_succ, List.set_cons_zero]; try rfl
      refine flows_done hps (by kernel_rfl) ?_
      go_wp2
      go_ret
      exact ⟨rfl, D.flush.2, hlen, SZd.out.tail.tail⟩
    have e4 : (m == 4) = false := by rw [beq_eq_false_iff_ne]; exact h4
    clear h4
    by_cases h5 : m = 5
    · subst h5
      have q2 := (S2.out.row (i := 1) rfl).cell 2
      simp only [List.getElem?_cons_succ, List.getElem?_cons_zero] at q2
      go_wp2_with fail
      have kk9 := dk_Cut S2.out (i := 2) rfl n dn.1 dn.2
      with_reducible refine kk9.mono ?_
      clear kk9
      rintro e w3 ⟨rfl, s3⟩
      have S3 := Lib.hid s3
      clear s3
      have q2' := (S3.out.row (i := 1) rfl).cell 2
      simp only [List.getElem?_cons_succ, List.getElem?_cons_zero] at q2'
      go_wp2_with fail
      have kk9 := rdk_Cut S3.out (i := 3) rfl n dn.1 dn.2
      with_reducible refine kk9.mono ?_
      clear kk9
      rintro e w4 ⟨rfl, s4⟩
      have SZ := Lib.hid s4
      clear s4
      have hlen : (D.cut n).wait.length ≤ D.wait.length + 1 := Nat.le_succ _
      go_wp2_with fail
      have SZd := Lib.hid SZ.out.drew
      obtain ⟨_, _, aW, cW, _, hcw⟩ := rd_cells SZd.out (i := 3) rfl
      go_wp2
      refine flows_begin (S := (fun w' => w'.cell? ⟨q, 1, none⟩ = some (.slice aW (D.cut n).wait.length cW))) hmixed 8 rfl (by repeat (first | exact ps_body | refine ps_then ?_ | refine ps_block ?_)) hcw (fun hps => ?_)
      simp only [List.replicate]
      refine flows_take 0 (v := ?_) (a' := ?_) hps rfl (by kernel_rfl) rfl ?_ ?_ ?_
      rotate_left 2
      · intro w' hk; go_simp; try rfl
      · simp only [Act.put, List.setIfInBounds_toArray, List.set_cons_succ, List.set_cons_zero]; try rfl
      refine flows_take 2 (v := ?_) (a' := ?_) hps rfl (by kernel_rfl) rfl ?_ ?_ ?_
      rotate_left 2
      · intro w' hk; go_simp; try rfl
      · simp only [Act.put, List.setIfInBounds_toArray, List.set_cons_succ, List.set_cons_zero]; try rfl
      refine flows_take 3 (v := ?_) (a' := ?_) hps rfl (by kernel_rfl) rfl ?_ ?_ ?_
      rotate_left 2
      · intro w' hk; go_simp; try rfl
      · simp only [Act.put, List.setIfInBounds_toArray, List.set_cons_succ, List.set_cons_zero]; try rfl
      refine flows_take 4 (v := ?_) (a' := ?_) hps rfl (by kernel_rfl) rfl ?_ ?_ ?_
      rotate_left 2
      · intro w' hk; go_simp; try rfl
      · simp only [Act.put, List.setIfInBounds_toArray, List.set_cons_succ, List.set_cons_zero]; try rfl
      refine flows_take 5 (v := ?_) (a' := ?_) hps rfl (by kernel_rfl) rfl ?_ ?_ ?_
      rotate_left 2
      · intro w' hk; have hc := hk; go_simp; try rfl
      · simp only [Act.put, List.setIfInBounds_toArray, List.set_cons_succ, List.set_cons_zero]; try rfl
      refine flows_take 6 (v := ?_) (a' := ?_) hps rfl (by kernel_rfl) rfl ?_ ?_ ?_
      rotate_left 2
      · intro w' hk; go_simp; try rfl
      · simp only [Act.put, List.setIfInBounds_toArray, List.set_cons_succ, List.set_cons_zero]; try rfl
      refine flows_one 1 hps rfl (by kernel_rfl) rfl (wp_next (fun K hK => ?_))
      go_simp
      have kk9 := dk_Waiting SZd.out (i := 2) rfl
      with_reducible refine kk9.mono ?_
      clear kk9
      rintro e w' ⟨rfl, rfl⟩
      have kp := hcw
      refine hK _ _ ⟨kp, ?_⟩
      clear kp hK
      refine flows_take 7 (v := ?_) (a' := ?_) hps rfl (by kernel_rfl) rfl ?_ ?_ ?_
      rotate_left 2
      · intro w' hk; go_simp; try rfl
      · simp only [Act.put, List.setIfInBounds_toArray, List.set_cons_succ, List.set_cons_zero]; try rfl
      refine flows_done hps (by kernel_rfl) ?_
      go_wp2
      go_ret
      exact ⟨rfl, D.cut n, hlen, SZd.out.tail.tail⟩
    have e5 : (m == 5) = false := by rw [beq_eq_false_iff_ne]; exact h5
    clear h5
    by_cases h6 : m = 6
    · subst h6
      have q5 := (S2.out.row (i := 1) rfl).cell 5
      simp only [List.getElem?_cons_succ, List.getElem?_cons_zero] at q5
      go_wp2_with fail
      have kk9 := dk_Boot S2.out (i := 2) rfl ka kn kc kl DK.out DKB.out (by omega)
      with_reducible refine kk9.mono ?_
      clear kk9
      rintro e w3 ⟨rfl, s3⟩
      have S3 := Lib.hid s3
      clear s3
      have q5' := (S3.out.row (i := 1) rfl).cell 5
      simp only [List.getElem?_cons_succ, List.getElem?_cons_zero] at q5'
      go_wp2_with fail
      have kk9 := rdk_Boot S3.out (i := 3) rfl ka kn kc kl DK.out DKB.out (by omega)
      with_reducible refine kk9.mono ?_
      clear kk9
      rintro e w4 ⟨rfl, s4⟩
      have SZ := Lib.hid s4
      clear s4
      have hlen : (D.boot kl).wait.length ≤ D.wait.length + 1 := Nat.zero_le _
      go_wp2_with fail
      have SZd := Lib.hid SZ.out.drew
      obtain ⟨_, _, aW, cW, _, hcw⟩ := rd_cells SZd.out (i := 3) rfl
      go_wp2
      refine flows_begin (S := (fun w' => w'.cell? ⟨q, 1, none⟩ = some (.slice aW (D.boot kl).wait.length cW))) hmixed 8 rfl (by repeat (first | exact ps_body | refine ps_then ?_ | refine ps_block ?_)) hcw (fun hps => ?_)
      simp only [List.replicate]
      refine flows_take 0 (v := ?_) (a' := ?_) hps rfl (by kernel_rfl) rfl ?_ ?_ ?_
      rotate_left 2
      · intro w' hk; go_simp; try rfl
      · simp only [Act.put, List.setIfInBounds_toArray, List.set_cons_succ, List.set_cons_zero]; try rfl
      refine flows_take 2 (v := ?_) (a' := ?_) hps rfl (by kernel_rfl) rfl ?_ ?_ ?_
      rotate_left 2
      · intro w' hk; go_simp; try rfl
      · simp only [Act.put, List.setIfInBounds_toArray, List.set_cons_succ, List.set_cons_zero]; try rfl
      refine flows_take 3 (v := ?_) (a' := ?_) hps rfl (by kernel_rfl) rfl ?_ ?_ ?_
      rotate_left 2
      · intro w' hk; go_simp; try rfl
      · simp only [Act.put, List.setIfInBounds_toArray, List.set_cons_succ, List.set_cons_zero]; try rfl
      refine flows_take 4 (v := ?_) (a' := ?_) hps rfl (by kernel_rfl) rfl ?_ ?_ ?_
      rotate_left 2
      · intro w' hk; go_simp; try rfl
      · simp only [Act.put, List.setIfInBounds_toArray, List.set_cons_succ, List.set_cons_zero]; try rfl
      refine flows_take 5 (v := ?_) (a' := ?_) hps rfl (by kernel_rfl) rfl ?_ ?_ ?_
      rotate_left 2
      · intro w' hk; have hc := hk; go_simp; try rfl
      · simp only [Act.put, List.setIfInBounds_toArray, List.set_cons_succ, List.set_cons_zero]; try rfl
      refine flows_take 6 (v := ?_) (a' := ?_) hps rfl (by kernel_rfl) rfl ?_ ?_ ?_
      rotate_left 2
      · intro w' hk; go_simp; try rfl
      · simp only [Act.put, List.setIfInBounds_toArray, List.set_cons_succ, List.set_cons_zero]; try rfl
      refine flows_one 1 hps rfl (by kernel_rfl) rfl (wp_next (fun K hK => ?_))
      go_simp
      have kk9 := dk_Waiting SZd.out (i := 2) rfl
      with_reducible refine kk9.mono ?_
      clear kk9
      rintro e w' ⟨rfl, rfl⟩
      have kp := hcw
      refine hK _ _ ⟨kp, ?_⟩
      clear kp hK
      refine flows_take 7 (v := ?_) (a' := ?_) hps rfl (by kernel_rfl) rfl ?_ ?_ ?_
      rotate_left 2
      · intro w' hk; go_simp; try rfl
      · simp only [Act.put, List.setIfInBounds_toArray, List.set_cons_succ, List.set_cons_zero]; try rfl
      refine flows_done hps (by kernel_rfl) ?_
      go_wp2
      go_ret
      exact ⟨rfl, D.boot kl, hlen, SZd.out.tail.tail⟩
    have e6 : (m == 6) = false := by rw [beq_eq_false_iff_ne]; exact h6
    clear h6
    by_cases h7 : m = 7
    · subst h7
      have S2d := Lib.hid S2.out.drew
      obtain ⟨Fd, hfd, _⟩ := dk_of S2d.out (i := 2) rfl
      obtain ⟨Fm, hfm, _⟩ := rd_of S2d.out (i := 3) rfl
      have HFD := Lib.hid hfd; have HFM := Lib.hid hfm
      clear hfd hfm
      go_wp2
      refine flowe_begin (F := fun _ => False) hmixed 7 rfl (by repeat (first | exact ps_body | refine ps_then ?_ | refine ps_block ?_)) (fun hps => ?_)
      simp only [List.replicate]
      have kk := (Keep.refl (fun _ => False) (W2)).drew
      refine flowe_take 0 (v := ?_) (a' := ?_) hps rfl (by kernel_rfl) rfl ?_ ?_ ?_
      rotate_left 2
      · intro w' hk; go_simp; try rfl
      · simp only [Act.put, List.setIfInBounds_toArray, List.set_cons_succ, List.set_cons_zero]; try rfl
      refine flowe_take 3 (v := ?_) (a' := ?_) hps rfl (by kernel_rfl) rfl ?_ ?_ ?_
      rotate_left 2
      · intro w' hk; go_simp; try rfl
      · simp only [Act.put, List.setIfInBounds_toArray, List.set_cons_succ, List.set_cons_zero]; try rfl
      refine flowe_one 1 hps rfl (by kernel_rfl) rfl (wp_next (fun K hK => ?_))
      go_simp
      have kk9 := disk_Bytes W2.drew p D Fd HFD.out
      with_reducible refine kk9.mono ?_
      clear kk9
      rintro e w3 ⟨v3, rfl, o3, b3⟩
      obtain ⟨a3, c3, rfl, _, hb3⟩ := Sl.of_owned o3
      have hb3 : Bs w3 a3 D.L.flatten.length c3 D.L.flatten := hb3
      generalize D.L.flatten.length = n3 at *
      have HB3 := Lib.hid hb3
      have HR3 := Lib.hid (HFM.out.below b3)
      have S3 := Lib.hid (S2d.out.below b3)
      have kp := Keep.of_below (F := fun _ => False) b3
      clear o3 b3 hb3
      refine hK _ _ (flow_step kk ?_ ?_)
      · first | exact kp | exact Keep.refl _ _ | exact (Keep.refl _ _).alloc _
      clear kk hK; try clear kp
      intro kk
      refine flowe_take 2 (v := ?_) (a' := ?_) hps rfl (by kernel_rfl) rfl ?_ ?_ ?_
      rotate_left 2
      · intro w' hk; have hs := run_s w' (HB3.out.keep hk (fun _ _ h => h)); go_simp; try rfl
      · simp only [Act.put, List.setIfInBounds_toArray, List.set_cons_succ, List.set_cons_zero]; try rfl
      refine flowe_one 4 hps rfl (by kernel_rfl) rfl (wp_next (fun K hK => ?_))
      go_simp
      have kk9 := rd_Bytes w3 q D Fm HR3.out
      with_reducible refine kk9.mono ?_
      clear kk9
      rintro e w4 ⟨v4, rfl, o4, b4⟩
      obtain ⟨a4, c4, rfl, _, hb4⟩ := Sl.of_owned o4
      have hb4 : Bs w4 a4 D.L.flatten.length c4 D.L.flatten := hb4
      generalize D.L.flatten.length = n4 at *
      have HB4 := Lib.hid hb4
      have SZ := Lib.hid (S3.out.below b4)
      have kp := Keep.of_below (F := fun _ => False) b4
      clear o4 b4 hb4
      refine hK _ _ (flow_step kk ?_ ?_)
      · first | exact kp | exact Keep.refl _ _ | exact (Keep.refl _ _).alloc _
      clear kk hK; try clear kp
      intro kk
      refine flowe_take 5 (v := ?_) (a' := ?_) hps rfl (by kernel_rfl) rfl ?_ ?_ ?_
      rotate_left 2
      · intro w' hk; have hs := run_s w' (HB4.out.keep hk (fun _ _ h => h)); go_simp; try rfl
      · simp only [Act.put, List.setIfInBounds_toArray, List.set_cons_succ, List.set_cons_zero]; try rfl
      refine flowe_take 6 (v := ?_) (a' := ?_) hps rfl (by kernel_rfl) rfl ?_ ?_ ?_
      rotate_left 2
      · intro w' hk; go_simp; try rfl
      · simp only [Act.put, List.setIfInBounds_toArray, List.set_cons_succ, List.set_cons_zero]; try rfl
      refine flowe_done hps (by kernel_rfl) ?_
      clear kk
      have hlen : D.wait.length ≤ D.wait.length + 1 := Nat.le_succ _
      go_wp2_with fail
      have SZd := Lib.hid SZ.out.drew
      obtain ⟨_, _, aW, cW, _, hcw⟩ := rd_cells SZd.out (i := 3) rfl
      go_wp2
      refine flows_begin (S := (fun w' => w'.cell? ⟨q, 1, none⟩ = some (.slice aW (D).wait.length cW))) hmixed 8 rfl (by repeat (first | exact ps_body | refine ps_then ?_ | refine ps_block ?_)) hcw (fun hps => ?_)
      simp only [List.replicate]
      refine flows_take 0 (v := ?_) (a' := ?_) hps rfl (by kernel_rfl) rfl ?_ ?_ ?_
      rotate_left 2
      · intro w' hk; go_simp; try rfl
      · simp only [Act.put, List.setIfInBounds_toArray, List.set_cons_succ, List.set_cons_zero]; try rfl
      refine flows_take 2 (v := ?_) (a' := ?_) hps rfl (by kernel_rfl) rfl ?_ ?_ ?_
      rotate_left 2
      · intro w' hk; go_simp; try rfl
      · simp only [Act.put, List.setIfInBounds_toArray, List.set_cons_succ, List.set_cons_zero]; try rfl
      refine flows_take 3 (v := ?_) (a' := ?_) hps rfl (by kernel_rfl) rfl ?_ ?_ ?_
      rotate_left 2
      · intro w' hk; go_simp; try rfl
      · simp only [Act.put, List.setIfInBounds_toArray, List.set_cons_succ, List.set_cons_zero]; try rfl
      refine flows_take 4 (v := ?_) (a' := ?_) hps rfl (by kernel_rfl) rfl ?_ ?_ ?_
      rotate_left 2
      · intro w' hk; go_simp; try rfl
      · simp only [Act.put, List.setIfInBounds_toArray, List.set_cons_succ, List.set_cons_zero]; try rfl
      refine flows_take 5 (v := ?_) (a' := ?_) hps rfl (by kernel_rfl) rfl ?_ ?_ ?_
      rotate_left 2
      · intro w' hk; have hc := hk; go_simp; try rfl
      · simp only [Act.put, List.setIfInBounds_toArray, List.set_cons_succ, List.set_cons_zero]; try rfl
      refine flows_take 6 (v := ?_) (a' := ?_) hps rfl (by kernel_rfl) rfl ?_ ?_ ?_
      rotate_left 2
      · intro w' hk; go_simp; try rfl
      · simp only [Act.put, List.setIfInBounds_toArray, List.set_cons_succ, List.set_cons_zero]; try rfl
      refine flows_one 1 hps rfl (by kernel_rfl) rfl (wp_next (fun K hK => ?_))
      go_simp
      have kk9 := dk_Waiting SZd.out (i := 2) rfl
      with_reducible refine kk9.mono ?_
      clear kk9
      rintro e w' ⟨rfl, rfl⟩
      have kp := hcw
      refine hK _ _ ⟨kp, ?_⟩
      clear kp hK
      refine flows_take 7 (v := ?_) (a' := ?_) hps rfl (by kernel_rfl) rfl ?_ ?_ ?_
      rotate_left 2
      · intro w' hk; go_simp; try rfl
      · simp only [Act.put, List.setIfInBounds_toArray, List.set_cons_succ, List.set_cons_zero]; try rfl
      refine flows_done hps (by kernel_rfl) ?_
      go_wp2
      go_ret
      exact ⟨rfl, D, hlen, SZd.out.tail.tail⟩
    have e7 : (m == 7) = false := by rw [beq_eq_false_iff_ne]; exact h7
    clear h7
    have S2d := Lib.hid S2.out.drew
    have q1 := (S2d.out.row (i := 1) rfl).cell 1
    simp only [List.getElem?_cons_succ, List.getElem?_cons_zero] at q1
    have Q1 := Lib.hid q1
    clear q1
    have hrc := Dk.write_code D i (secOf x)
    have hlen : (D.write i (secOf x)).2.wait.length ≤ D.wait.length + 1 := by
      unfold Dk.write
      split
      · exact Nat.le_succ _
      · split
        · exact Nat.le_succ _
        · show (D.wait ++ [_]).length ≤ _
          rw [List.length_append]; exact Nat.le_refl _
    go_wp2
    refine flows_begin (S := (fun w' => w'.cell? ⟨bx, 1, none⟩ = some (.int .i64 i))) hmixed 12 rfl (by repeat (first | exact ps_body | refine ps_then ?_ | refine ps_block ?_)) Q1.out (fun hps => ?_)
    simp only [List.replicate]
    refine flows_take 0 (v := ?_) (a' := ?_) hps rfl (by kernel_rfl) rfl ?_ ?_ ?_
    rotate_left 2
    · intro w' hk; go_simp; try rfl
    · simp only [Act.put, List.setIfInBounds_toArray, List.set_cons_succ, List.set_cons_zero]; try rfl
    refine flows_take 1 (v := ?_) (a' := ?_) hps rfl (by kernel_rfl) rfl ?_ ?_ ?_
    rotate_left 2
    · intro w' hk; go_simp; try rfl
    · simp only [Act.put, List.setIfInBounds_toArray, List.set_cons_succ, List.set_cons_zero]; try rfl
    refine flows_take 2 (v := ?_) (a' := ?_) hps rfl (by kernel_rfl) rfl ?_ ?_ ?_
    rotate_left 2
    · intro w' hk; have hc := hk; go_simp; try rfl
    · simp only [Act.put, List.setIfInBounds_toArray, List.set_cons_succ, List.set_cons_zero]; try rfl
    refine flows_take 3 (v := ?_) (a' := ?_) hps rfl (by kernel_rfl) rfl ?_ ?_ ?_
    rotate_left 2
    · intro w' hk; go_simp; try rfl
    · simp only [Act.put, List.setIfInBounds_toArray, List.set_cons_succ, List.set_cons_zero]; try rfl
    refine flows_take 6 (v := ?_) (a' := ?_) hps rfl (by kernel_rfl) rfl ?_ ?_ ?_
    rotate_left 2
    · intro w' hk; go_simp; try rfl
    · simp only [Act.put, List.setIfInBounds_toArray, List.set_cons_succ, List.set_cons_zero]; try rfl
    refine flows_take 7 (v := ?_) (a' := ?_) hps rfl (by kernel_rfl) rfl ?_ ?_ ?_
    rotate_left 2
    · intro w' hk; go_simp; try rfl
    · simp only [Act.put, List.setIfInBounds_toArray, List.set_cons_succ, List.set_cons_zero]; try rfl
    refine flows_take 8 (v := ?_) (a' := ?_) hps rfl (by kernel_rfl) rfl ?_ ?_ ?_
    rotate_left 2
    · intro w' hk; have hc := hk; go_simp; try rfl
    · simp only [Act.put, List.setIfInBounds_toArray, List.set_cons_succ, List.set_cons_zero]; try rfl
    refine flows_take 9 (v := ?_) (a' := ?_) hps rfl (by kernel_rfl) rfl ?_ ?_ ?_
    rotate_left 2
    · intro w' hk; go_simp; try rfl
    · simp only [Act.put, List.setIfInBounds_toArray, List.set_cons_succ, List.set_cons_zero]; try rfl
    refine flows_one 4 hps rfl (by kernel_rfl) rfl (wp_next (fun K hK => ?_))
    go_simp
    have kk9 := dk_Write S2d.out (i := 2) rfl i _ _ _ (secOf x) (S2d.out.bsO (i := 0) rfl) (by omega)
    with_reducible refine kk9.mono ?_
    clear kk9
    rintro e w3 ⟨rfl, s3⟩
    have S3 := Lib.hid s3
    clear s3
    have q1' := (S3.out.row (i := 1) rfl).cell 1
    simp only [List.getElem?_cons_succ, List.getElem?_cons_zero] at q1'
    have kp := q1'
    refine hK _ _ ⟨kp, ?_⟩
    clear kp hK
    refine flows_one 5 hps rfl (by kernel_rfl) rfl (wp_next (fun K hK => ?_))
    go_simp
    have kk9 := code_err w3 (D.write i (secOf x)).1 hrc.1 hrc.2
    with_reducible refine kk9.mono ?_
    clear kk9
    rintro e w' ⟨rfl, rfl⟩
    have q1' := (S3.out.row (i := 1) rfl).cell 1
    simp only [List.getElem?_cons_succ, List.getElem?_cons_zero] at q1'
    have kp := q1'
    refine hK _ _ ⟨kp, ?_⟩
    clear kp hK
    refine flows_one 10 hps rfl (by kernel_rfl) rfl (wp_next (fun K hK => ?_))
    go_simp
    have kk9 := rdk_Write S3.out (i := 3) rfl i _ _ _ (secOf x) (S3.out.bsO (i := 0) rfl) (by omega)
    with_reducible refine kk9.mono ?_
    clear kk9
    rintro e w4 ⟨rfl, s4⟩
    have SZ := Lib.hid s4
    clear s4
    have q1' := (SZ.out.row (i := 1) rfl).cell 1
    simp only [List.getElem?_cons_succ, List.getElem?_cons_zero] at q1'
    have kp := q1'
    refine hK _ _ ⟨kp, ?_⟩
    clear kp hK
    refine flows_take 11 (v := ?_) (a' := ?_) hps rfl (by kernel_rfl) rfl ?_ ?_ ?_
    rotate_left 2
    · intro w' hk; go_simp; try rfl
    · simp only [Act.put, List.setIfInBounds_toArray, List.set_cons_succ, List.set_cons_zero]; try rfl
    refine flows_done hps (by kernel_rfl) ?_
    generalize (D.write i (secOf x)).1 = rc at *
    go_wp2_with fail
    have SZd := Lib.hid SZ.out.drew
    obtain ⟨_, _, aW, cW, _, hcw⟩ := rd_cells SZd.out (i := 3) rfl
    go_wp2
    refine flows_begin (S := (fun w' => w'.cell? ⟨q, 1, none⟩ = some (.slice aW ((D.write i (secOf x)).2).wait.length cW))) hmixed 8 rfl (by repeat (first | exact ps_body | refine ps_then ?_ | refine ps_block ?_)) hcw (fun hps => ?_)
    simp only [List.replicate]
    refine flows_take 0 (v := ?_) (a' := ?_) hps rfl (by kernel_rfl) rfl ?_ ?_ ?_
    rotate_left 2
    · intro w' hk; go_simp; try rfl
    · simp only [Act.put, List.setIfInBounds_toArray, List.set_cons_succ, List.set_cons_zero]; try rfl
    refine flows_take 2 (v := ?_) (a' := ?_) hps rfl (by kernel_rfl) rfl ?_ ?_ ?_
    rotate_left 2
    · intro w' hk; go_simp; try rfl
    · simp only [Act.put, List.setIfInBounds_toArray, List.set_cons_succ, List.set_cons_zero]; try rfl
    refine flows_take 3 (v := ?_) (a' := ?_) hps rfl (by kernel_rfl) rfl ?_ ?_ ?_
    rotate_left 2
    · intro w' hk; go_simp; try rfl
    · simp only [Act.put, List.setIfInBounds_toArray, List.set_cons_succ, List.set_cons_zero]; try rfl
    refine flows_take 4 (v := ?_) (a' := ?_) hps rfl (by kernel_rfl) rfl ?_ ?_ ?_
    rotate_left 2
    · intro w' hk; go_simp; try rfl
    · simp only [Act.put, List.setIfInBounds_toArray, List.set_cons_succ, List.set_cons_zero]; try rfl
    refine flows_take 5 (v := ?_) (a' := ?_) hps rfl (by kernel_rfl) rfl ?_ ?_ ?_
    rotate_left 2
    · intro w' hk; have hc := hk; go_simp; try rfl
    · simp only [Act.put, List.setIfInBounds_toArray, List.set_cons_succ, List.set_cons_zero]; try rfl
    refine flows_take 6 (v := ?_) (a' := ?_) hps rfl (by kernel_rfl) rfl ?_ ?_ ?_
    rotate_left 2
    · intro w' hk; go_simp; try rfl
    · simp only [Act.put, List.setIfInBounds_toArray, List.set_cons_succ, List.set_cons_zero]; try rfl
    refine flows_one 1 hps rfl (by kernel_rfl) rfl (wp_next (fun K hK => ?_))
    go_simp
    have kk9 := dk_Waiting SZd.out (i := 2) rfl
    with_reducible refine kk9.mono ?_
    clear kk9
    rintro e w' ⟨rfl, rfl⟩
    have kp := hcw
    refine hK _ _ ⟨kp, ?_⟩
    clear kp hK
    refine flows_take 7 (v := ?_) (a' := ?_) hps rfl (by kernel_rfl) rfl ?_ ?_ ?_
    rotate_left 2
    · intro w' hk; go_simp; try rfl
    · simp only [Act.put, List.setIfInBounds_toArray, List.set_cons_succ, List.set_cons_zero]; try rfl
    refine flows_done hps (by kernel_rfl) ?_
    go_wp2
    go_ret
    exact ⟨rfl, (D.write i (secOf x)).2, hlen, SZd.out.tail.tail⟩
  · have hbe : ((b.length : Int) == 0) = false := by rw [beq_eq_false_iff_ne]; omega
    have HB0 := Lib.hid hb0; clear hb0
    go_wp2_with fail
    rw [← HBX.out]
    generalize w.alloc (.cells [.int .i64 what, .int .i64 i, .int .i64 n, bv x, .slice ba b.length bc, .slice ka kn kc].toArray 33 (0, 0)) = W2 at h1 ⊢
    have S2 := Lib.hid (h1.addBs (Below.refl _ _) (Bs.nil W2) fun q hq _ => by cases hq)
    clear h1
    have q0 := (S2.out.row (i := 1) rfl).cell 0
    simp only [List.getElem?_cons_succ, List.getElem?_cons_zero] at q0
    go_wp2_with fail
    have kk9 := law_Pick W2 what 8 dw.1 dw.2 (by decide) (by decide)
    with_reducible refine kk9.mono ?_
    clear kk9
    rintro e w' ⟨rfl, rfl⟩
    generalize what % 8 = m
    by_cases h3 : m = 3
    · subst h3
      have q1 := (S2.out.row (i := 1) rfl).cell 1
      simp only [List.getElem?_cons_succ, List.getElem?_cons_zero] at q1
      go_wp2_with fail
      have kk9 := dk_Read S2.out (i := 2) rfl i (by omega)
      with_reducible refine kk9.mono ?_
      clear kk9
      rintro e w3 ⟨a2, n2, c2, rfl, hb2, b2⟩
      have S3 := Lib.hid (S2.out.below b2)
      have HB2 := Lib.hid hb2
      clear hb2 b2
      have q1' := (S3.out.row (i := 1) rfl).cell 1
      simp only [List.getElem?_cons_succ, List.getElem?_cons_zero] at q1'
      go_wp2_with fail
      have kk9 := rdk_Read S3.out (i := 3) rfl i (by omega)
      with_reducible refine kk9.mono ?_
      clear kk9
      rintro e w4 ⟨a3, n3, c3, rfl, hb3, b3⟩
      have hs2 := run_s w4 (HB2.out.below b3)
      have hs3 := run_s w4 hb3
      have SZ := Lib.hid (S3.out.below b3)
      have hrc := Dk.read_code D i
      generalize (D.read i).1 = rc at *
      have hlen : D.wait.length ≤ D.wait.length + 1 := Nat.le_succ _
      clear hb3 b3
      go_wp2_with fail
      have kk9 := code_err w4 rc hrc.1 hrc.2
      with_reducible refine kk9.mono ?_
      clear kk9
      rintro e w' ⟨rfl, rfl⟩
      go_wp2_with fail
      clear hs2 hs3
      have SZd := Lib.hid SZ.out.drew
      obtain ⟨_, _, aW, cW, _, hcw⟩ := rd_cells SZd.out (i := 3) rfl
      go_wp2
      refine flows_begin (S := (fun w' => w'.cell? ⟨q, 1, none⟩ = some (.slice aW (D).wait.length cW))) hmixed 8 rfl (by repeat (first | exact ps_body | refine ps_then ?_ | refine ps_block ?_)) hcw (fun hps => ?_)
      simp only [List.replicate]
      refine flows_take 0 (v := ?_) (a' := ?_) hps rfl (by kernel_rfl) rfl ?_ ?_ ?_
      rotate_left 2
      · intro w' hk; go_simp; try rfl
      · simp only [Act.put, List.setIfInBounds_toArray, List.set_cons_succ, List.set_cons_zero]; try rfl
      refine flows_take 2 (v := ?_) (a' := ?_) hps rfl (by kernel_rfl) rfl ?_ ?_ ?_
      rotate_left 2
      · intro w' hk; go_simp; try rfl
      · simp only [Act.put, List.setIfInBounds_toArray, List.set_cons_succ, List.set_cons_zero]; try rfl
      refine flows_take 3 (v := ?_) (a' := ?_) hps rfl (by kernel_rfl) rfl ?_ ?_ ?_
      rotate_left 2
      · intro w' hk; go_simp; try rfl
      · simp only [Act.put, List.setIfInBounds_toArray, List.set_cons_succ, List.set_cons_zero]; try rfl
      refine flows_take 4 (v := ?_) (a' := ?_) hps rfl (by kernel_rfl) rfl ?_ ?_ ?_
      rotate_left 2
      · intro w' hk; go_simp; try rfl
      · simp only [Act.put, List.setIfInBounds_toArray, List.set_cons_succ, List.set_cons_zero]; try rfl
      refine flows_take 5 (v := ?_) (a' := ?_) hps rfl (by kernel_rfl) rfl ?_ ?_ ?_
      rotate_left 2
      · intro w' hk; have hc := hk; go_simp; try rfl
      · simp only [Act.put, List.setIfInBounds_toArray, List.set_cons_succ, List.set_cons_zero]; try rfl
      refine flows_take 6 (v := ?_) (a' := ?_) hps rfl (by kernel_rfl) rfl ?_ ?_ ?_
      rotate_left 2
      · intro w' hk; go_simp; try rfl
      · simp only [Act.put, List.setIfInBounds_toArray, List.set_cons_succ, List.set_cons_zero]; try rfl
      refine flows_one 1 hps rfl (by kernel_rfl) rfl (wp_next (fun K hK => ?_))
      go_simp
      have kk9 := dk_Waiting SZd.out (i := 2) rfl
      with_reducible refine kk9.mono ?_
      clear kk9
      rintro e w' ⟨rfl, rfl⟩
      have kp := hcw
      refine hK _ _ ⟨kp, ?_⟩
      clear kp hK
      refine flows_take 7 (v := ?_) (a' := ?_) hps rfl (by kernel_rfl) rfl ?_ ?_ ?_
      rotate_left 2
      · intro w' hk; go_simp; try rfl
      · simp only [Act.put, List.setIfInBounds_toArray, List.set_cons_succ, List.set_cons_zero]; try rfl
      refine flows_done hps (by kernel_rfl) ?_
      go_wp2
      go_ret
      exact ⟨rfl, D, hlen, SZd.out.tail.tail⟩
    have e3 : (m == 3) = false := by rw [beq_eq_false_iff_ne]; exact h3
    clear h3
    by_cases h4 : m = 4
    · subst h4
      go_wp2_with fail
      have kk9 := dk_Flush S2.out (i := 2) rfl (by omega)
      with_reducible refine kk9.mono ?_
      clear kk9
      rintro e w3 ⟨rfl, s3⟩
      have S3 := Lib.hid s3
      clear s3
      have hrc := Dk.flush_code D
      have hlen : D.flush.2.wait.length ≤ D.wait.length + 1 := by unfold Dk.flush; split; exact Nat.le_succ _; exact Nat.zero_le _
      go_wp2_with fail
      have kk9 := code_err w3 D.flush.1 hrc.1 hrc.2
      with_reducible refine kk9.mono ?_
      clear kk9
      rintro e w' ⟨rfl, rfl⟩
      go_wp2_with fail
      have kk9 := rdk_Flush S3.out (i := 3) rfl (by omega)
      with_reducible refine kk9.mono ?_
      clear kk9
      rintro e w4 ⟨rfl, s4⟩
      have SZ := Lib.hid s4
      clear s4
      generalize D.flush.1 = rc at *
      go_wp2_with fail
      have SZd := Lib.hid SZ.out.drew
      obtain ⟨_, _, aW, cW, _, hcw⟩ := rd_cells SZd.out (i := 3) rfl
      go_wp2
      refine flows_begin (S := (fun w' => w'.cell? ⟨q, 1, none⟩ = some (.slice aW (D.flush.2).wait.length cW))) hmixed 8 rfl (by repeat (first | exact ps_body | refine ps_then ?_ | refine ps_block ?_)) hcw (fun hps => ?_)
      simp only [List.replicate]
      refine flows_take 0 (v := ?_) (a' := ?_) hps rfl (by kernel_rfl) rfl ?_ ?_ ?_
      rotate_left 2
      · intro w' hk; go_simp; try rfl
      · simp only [Act.put, List.setIfInBounds_toArray, List.set_cons_succ, List.set_cons_zero]; try rfl
      refine flows_take 2 (v := ?_) (a' := ?_) hps rfl (by kernel_rfl) rfl ?_ ?_ ?_
      rotate_left 2
      · intro w' hk; go_simp; try rfl
      · simp only [Act.put, List.setIfInBounds_toArray, List.set_cons_succ, List.set_cons_zero]; try rfl
      refine flows_take 3 (v := ?_) (a' := ?_) hps rfl (by kernel_rfl) rfl ?_ ?_ ?_
      rotate_left 2
      · intro w' hk; go_simp; try rfl
      · simp only [Act.put, List.setIfInBounds_toArray, List.set_cons_succ, List.set_cons_zero]; try rfl
      refine flows_take 4 (v := ?_) (a' := ?_) hps rfl (by kernel_rfl) rfl ?_ ?_ ?_
      rotate_left 2
      · intro w' hk; go_simp; try rfl
      · simp only [Act.put, List.setIfInBounds_toArray, List.set_cons_succ, List.set_cons_zero]; try rfl
      refine flows_take 5 (v := ?_) (a' := ?_) hps rfl (by kernel_rfl) rfl ?_ ?_ ?_
      rotate_left 2
      · intro w' hk; have hc := hk; go_simp; try rfl
      · simp only [Act.put, List.setIfInBounds_toArray, List.set_cons_succ, List.set_cons_zero]; try rfl
      refine flows_take 6 (v := ?_) (a' := ?_) hps rfl (by kernel_rfl) rfl ?_ ?_ ?_
      rotate_left 2
      · intro w' hk; go_simp; try rfl
      · simp only [Act.put, List.setIfInBounds_toArray, List.set_cons_succ, List.set_cons_zero]; try rfl
      refine flows_one 1 hps rfl (by kernel_rfl) rfl (wp_next (fun K hK => ?_))
      go_simp
      have kk9 := dk_Waiting SZd.out (i := 2) rfl
      with_reducible refine kk9.mono ?_
      clear kk9
      rintro e w' ⟨rfl, rfl⟩
      have kp := hcw
      refine hK _ _ ⟨kp, ?_⟩
      clear kp hK
      refine flows_take 7 (v := ?_) (a' := ?_) hps rfl (by kernel_rfl) rfl ?_ ?_ ?_
      rotate_left 2
      · intro w' hk; go_simp; try rfl
      · simp only [Act.put, List.setIfInBounds_toArray, List.set_cons_succ, List.set_cons_zero]; try rfl
      refine flows_done hps (by kernel_rfl) ?_
      go_wp2
      go_ret
      exact ⟨rfl, D.flush.2, hlen, SZd.out.tail.tail⟩
    have e4 : (m == 4) = false := by rw [beq_eq_false_iff_ne]; exact h4
    clear h4
    by_cases h5 : m = 5
    · subst h5
      have q2 := (S2.out.row (i := 1) rfl).cell 2
      simp only [List.getElem?_cons_succ, List.getElem?_cons_zero] at q2
      go_wp2_with fail
      have kk9 := dk_Cut S2.out (i := 2) rfl n dn.1 dn.2
      with_reducible refine kk9.mono ?_
      clear kk9
      rintro e w3 ⟨rfl, s3⟩
      have S3 := Lib.hid s3
      clear s3
      have q2' := (S3.out.row (i := 1) rfl).cell 2
      simp only [List.getElem?_cons_succ, List.getElem?_cons_zero] at q2'
      go_wp2_with fail
      have kk9 := rdk_Cut S3.out (i := 3) rfl n dn.1 dn.2
      with_reducible refine kk9.mono ?_
      clear kk9
      rintro e w4 ⟨rfl, s4⟩
      have SZ := Lib.hid s4
      clear s4
      have hlen : (D.cut n).wait.length ≤ D.wait.length + 1 := Nat.le_succ _
      go_wp2_with fail
      have SZd := Lib.hid SZ.out.drew
      obtain ⟨_, _, aW, cW, _, hcw⟩ := rd_cells SZd.out (i := 3) rfl
      go_wp2
      refine flows_begin (S := (fun w' => w'.cell? ⟨q, 1, none⟩ = some (.slice aW (D.cut n).wait.length cW))) hmixed 8 rfl (by repeat (first | exact ps_body | refine ps_then ?_ | refine ps_block ?_)) hcw (fun hps => ?_)
      simp only [List.replicate]
      refine flows_take 0 (v := ?_) (a' := ?_) hps rfl (by kernel_rfl) rfl ?_ ?_ ?_
      rotate_left 2
      · intro w' hk; go_simp; try rfl
      · simp only [Act.put, List.setIfInBounds_toArray, List.set_cons_succ, List.set_cons_zero]; try rfl
      refine flows_take 2 (v := ?_) (a' := ?_) hps rfl (by kernel_rfl) rfl ?_ ?_ ?_
      rotate_left 2
      · intro w' hk; go_simp; try rfl
      · simp only [Act.put, List.setIfInBounds_toArray, List.set_cons_succ, List.set_cons_zero]; try rfl
      refine flows_take 3 (v := ?_) (a' := ?_) hps rfl (by kernel_rfl) rfl ?_ ?_ ?_
      rotate_left 2
      · intro w' hk; go_simp; try rfl
      · simp only [Act.put, List.setIfInBounds_toArray, List.set_cons_succ, List.set_cons_zero]; try rfl
      refine flows_take 4 (v := ?_) (a' := ?_) hps rfl (by kernel_rfl) rfl ?_ ?_ ?_
      rotate_left 2
      · intro w' hk; go_simp; try rfl
      · simp only [Act.put, List.setIfInBounds_toArray, List.set_cons_succ, List.set_cons_zero]; try rfl
      refine flows_take 5 (v := ?_) (a' := ?_) hps rfl (by kernel_rfl) rfl ?_ ?_ ?_
      rotate_left 2
      · intro w' hk; have hc := hk; go_simp; try rfl
      · simp only [Act.put, List.setIfInBounds_toArray, List.set_cons_succ, List.set_cons_zero]; try rfl
      refine flows_take 6 (v := ?_) (a' := ?_) hps rfl (by kernel_rfl) rfl ?_ ?_ ?_
      rotate_left 2
      · intro w' hk; go_simp; try rfl
      · simp only [Act.put, List.setIfInBounds_toArray, List.set_cons_succ, List.set_cons_zero]; try rfl
      refine flows_one 1 hps rfl (by kernel_rfl) rfl (wp_next (fun K hK => ?_))
      go_simp
      have kk9 := dk_Waiting SZd.out (i := 2) rfl
      with_reducible refine kk9.mono ?_
      clear kk9
      rintro e w' ⟨rfl, rfl⟩
      have kp := hcw
      refine hK _ _ ⟨kp, ?_⟩
      clear kp hK
      refine flows_take 7 (v := ?_) (a' := ?_) hps rfl (by kernel_rfl) rfl ?_ ?_ ?_
      rotate_left 2
      · intro w' hk; go_simp; try rfl
      · simp only [Act.put, List.setIfInBounds_toArray, List.set_cons_succ, List.set_cons_zero]; try rfl
      refine flows_done hps (by kernel_rfl) ?_
      go_wp2
      go_ret
      exact ⟨rfl, D.cut n, hlen, SZd.out.tail.tail⟩
    have e5 : (m == 5) = false := by rw [beq_eq_false_iff_ne]; exact h5
    clear h5
    by_cases h6 : m = 6
    · subst h6
      have q5 := (S2.out.row (i := 1) rfl).cell 5
      simp only [List.getElem?_cons_succ, List.getElem?_cons_zero] at q5
      go_wp2_with fail
      have kk9 := dk_Boot S2.out (i := 2) rfl ka kn kc kl DK.out DKB.out (by omega)
      with_reducible refine kk9.mono ?_
      clear kk9
      rintro e w3 ⟨rfl, s3⟩
      have S3 := Lib.hid s3
      clear s3
      have q5' := (S3.out.row (i := 1) rfl).cell 5
      simp only [List.getElem?_cons_succ, List.getElem?_cons_zero] at q5'
      go_wp2_with fail
      have kk9 := rdk_Boot S3.out (i := 3) rfl ka kn kc kl DK.out DKB.out (by omega)
      with_reducible refine kk9.mono ?_
      clear kk9
      rintro e w4 ⟨rfl, s4⟩
      have SZ := Lib.hid s4
      clear s4
      have hlen : (D.boot kl).wait.length ≤ D.wait.length + 1 := Nat.zero_le _
      go_wp2_with fail
      have SZd := Lib.hid SZ.out.drew
      obtain ⟨_, _, aW, cW, _, hcw⟩ := rd_cells SZd.out (i := 3) rfl
      go_wp2
      refine flows_begin (S := (fun w' => w'.cell? ⟨q, 1, none⟩ = some (.slice aW (D.boot kl).wait.length cW))) hmixed 8 rfl (by repeat (first | exact ps_body | refine ps_then ?_ | refine ps_block ?_)) hcw (fun hps => ?_)
      simp only [List.replicate]
      refine flows_take 0 (v := ?_) (a' := ?_) hps rfl (by kernel_rfl) rfl ?_ ?_ ?_
      rotate_left 2
      · intro w' hk; go_simp; try rfl
      · simp only [Act.put, List.setIfInBounds_toArray, List.set_cons_succ, List.set_cons_zero]; try rfl
      refine flows_take 2 (v := ?_) (a' := ?_) hps rfl (by kernel_rfl) rfl ?_ ?_ ?_
      rotate_left 2
      · intro w' hk; go_simp; try rfl
      · simp only [Act.put, List.setIfInBounds_toArray, List.set_cons_succ, List.set_cons_zero]; try rfl
      refine flows_take 3 (v := ?_) (a' := ?_) hps rfl (by kernel_rfl) rfl ?_ ?_ ?_
      rotate_left 2
      · intro w' hk; go_simp; try rfl
      · simp only [Act.put, List.setIfInBounds_toArray, List.set_cons_succ, List.set_cons_zero]; try rfl
      refine flows_take 4 (v := ?_) (a' := ?_) hps rfl (by kernel_rfl) rfl ?_ ?_ ?_
      rotate_left 2
      · intro w' hk; go_simp; try rfl
      · simp only [Act.put, List.setIfInBounds_toArray, List.set_cons_succ, List.set_cons_zero]; try rfl
      refine flows_take 5 (v := ?_) (a' := ?_) hps rfl (by kernel_rfl) rfl ?_ ?_ ?_
      rotate_left 2
      · intro w' hk; have hc := hk; go_simp; try rfl
      · simp only [Act.put, List.setIfInBounds_toArray, List.set_cons_succ, List.set_cons_zero]; try rfl
      refine flows_take 6 (v := ?_) (a' := ?_) hps rfl (by kernel_rfl) rfl ?_ ?_ ?_
      rotate_left 2
      · intro w' hk; go_simp; try rfl
      · simp only [Act.put, List.setIfInBounds_toArray, List.set_cons_succ, List.set_cons_zero]; try rfl
      refine flows_one 1 hps rfl (by kernel_rfl) rfl (wp_next (fun K hK => ?_))
      go_simp
      have kk9 := dk_Waiting SZd.out (i := 2) rfl
      with_reducible refine kk9.mono ?_
      clear kk9
      rintro e w' ⟨rfl, rfl⟩
      have kp := hcw
      refine hK _ _ ⟨kp, ?_⟩
      clear kp hK
      refine flows_take 7 (v := ?_) (a' := ?_) hps rfl (by kernel_rfl) rfl ?_ ?_ ?_
      rotate_left 2
      · intro w' hk; go_simp; try rfl
      · simp only [Act.put, List.setIfInBounds_toArray, List.set_cons_succ, List.set_cons_zero]; try rfl
      refine flows_done hps (by kernel_rfl) ?_
      go_wp2
      go_ret
      exact ⟨rfl, D.boot kl, hlen, SZd.out.tail.tail⟩
    have e6 : (m == 6) = false := by rw [beq_eq_false_iff_ne]; exact h6
    clear h6
    by_cases h7 : m = 7
    · subst h7
      have S2d := Lib.hid S2.out.drew
      obtain ⟨Fd, hfd, _⟩ := dk_of S2d.out (i := 2) rfl
      obtain ⟨Fm, hfm, _⟩ := rd_of S2d.out (i := 3) rfl
      have HFD := Lib.hid hfd; have HFM := Lib.hid hfm
      clear hfd hfm
      go_wp2
      refine flowe_begin (F := fun _ => False) hmixed 7 rfl (by repeat (first | exact ps_body | refine ps_then ?_ | refine ps_block ?_)) (fun hps => ?_)
      simp only [List.replicate]
      have kk := (Keep.refl (fun _ => False) (W2)).drew
      refine flowe_take 0 (v := ?_) (a' := ?_) hps rfl (by kernel_rfl) rfl ?_ ?_ ?_
      rotate_left 2
      · intro w' hk; go_simp; try rfl
      · simp only [Act.put, List.setIfInBounds_toArray, List.set_cons_succ, List.set_cons_zero]; try rfl
      refine flowe_take 3 (v := ?_) (a' := ?_) hps rfl (by kernel_rfl) rfl ?_ ?_ ?_
      rotate_left 2
      · intro w' hk; go_simp; try rfl
      · simp only [Act.put, List.setIfInBounds_toArray, List.set_cons_succ, List.set_cons_zero]; try rfl
      refine flowe_one 1 hps rfl (by kernel_rfl) rfl (wp_next (fun K hK => ?_))
      go_simp
      have kk9 := disk_Bytes W2.drew p D Fd HFD.out
      with_reducible refine kk9.mono ?_
      clear kk9
      rintro e w3 ⟨v3, rfl, o3, b3⟩
      obtain ⟨a3, c3, rfl, _, hb3⟩ := Sl.of_owned o3
      have hb3 : Bs w3 a3 D.L.flatten.length c3 D.L.flatten := hb3
      generalize D.L.flatten.length = n3 at *
      have HB3 := Lib.hid hb3
      have HR3 := Lib.hid (HFM.out.below b3)
      have S3 := Lib.hid (S2d.out.below b3)
      have kp := Keep.of_below (F := fun _ => False) b3
      clear o3 b3 hb3
      refine hK _ _ (flow_step kk ?_ ?_)
      · first | exact kp | exact Keep.refl _ _ | exact (Keep.refl _ _).alloc _
      clear kk hK; try clear kp
      intro kk
      refine flowe_take 2 (v := ?_) (a' := ?_) hps rfl (by kernel_rfl) rfl ?_ ?_ ?_
      rotate_left 2
      · intro w' hk; have hs := run_s w' (HB3.out.keep hk (fun _ _ h => h)); go_simp; try rfl
      · simp only [Act.put, List.setIfInBounds_toArray, List.set_cons_succ, List.set_cons_zero]; try rfl
      refine flowe_one 4 hps rfl (by kernel_rfl) rfl (wp_next (fun K hK => ?_))
      go_simp
      have kk9 := rd_Bytes w3 q D Fm HR3.out
      with_reducible refine kk9.mono ?_
      clear kk9
      rintro e w4 ⟨v4, rfl, o4, b4⟩
      obtain ⟨a4, c4, rfl, _, hb4⟩ := Sl.of_owned o4
      have hb4 : Bs w4 a4 D.L.flatten.length c4 D.L.flatten := hb4
      generalize D.L.flatten.length = n4 at *
      have HB4 := Lib.hid hb4
      have SZ := Lib.hid (S3.out.below b4)
      have kp := Keep.of_below (F := fun _ => False) b4
      clear o4 b4 hb4
      refine hK _ _ (flow_step kk ?_ ?_)
      · first | exact kp | exact Keep.refl _ _ | exact (Keep.refl _ _).alloc _
      clear kk hK; try clear kp
      intro kk
      refine flowe_take 5 (v := ?_) (a' := ?_) hps rfl (by kernel_rfl) rfl ?_ ?_ ?_
      rotate_left 2
      · intro w' hk; have hs := run_s w' (HB4.out.keep hk (fun _ _ h => h)); go_simp; try rfl
      · simp only [Act.put, List.setIfInBounds_toArray, List.set_cons_succ, List.set_cons_zero]; try rfl
      refine flowe_take 6 (v := ?_) (a' := ?_) hps rfl (by kernel_rfl) rfl ?_ ?_ ?_
      rotate_left 2
      · intro w' hk; go_simp; try rfl
      · simp only [Act.put, List.setIfInBounds_toArray, List.set_cons_succ, List.set_cons_zero]; try rfl
      refine flowe_done hps (by kernel_rfl) ?_
      clear kk
      have hlen : D.wait.length ≤ D.wait.length + 1 := Nat.le_succ _
      go_wp2_with fail
      have SZd := Lib.hid SZ.out.drew
      obtain ⟨_, _, aW, cW, _, hcw⟩ := rd_cells SZd.out (i := 3) rfl
      go_wp2
      refine flows_begin (S := (fun w' => w'.cell? ⟨q, 1, none⟩ = some (.slice aW (D).wait.length cW))) hmixed 8 rfl (by repeat (first | exact ps_body | refine ps_then ?_ | refine ps_block ?_)) hcw (fun hps => ?_)
      simp only [List.replicate]
      refine flows_take 0 (v := ?_) (a' := ?_) hps rfl (by kernel_rfl) rfl ?_ ?_ ?_
      rotate_left 2
      · intro w' hk; go_simp; try rfl
      · simp only [Act.put, List.setIfInBounds_toArray, List.set_cons_succ, List.set_cons_zero]; try rfl
      refine flows_take 2 (v := ?_) (a' := ?_) hps rfl (by kernel_rfl) rfl ?_ ?_ ?_
      rotate_left 2
      · intro w' hk; go_simp; try rfl
      · simp only [Act.put, List.setIfInBounds_toArray, List.set_cons_succ, List.set_cons_zero]; try rfl
      refine flows_take 3 (v := ?_) (a' := ?_) hps rfl (by kernel_rfl) rfl ?_ ?_ ?_
      rotate_left 2
      · intro w' hk; go_simp; try rfl
      · simp only [Act.put, List.setIfInBounds_toArray, List.set_cons_succ, List.set_cons_zero]; try rfl
      refine flows_take 4 (v := ?_) (a' := ?_) hps rfl (by kernel_rfl) rfl ?_ ?_ ?_
      rotate_left 2
      · intro w' hk; go_simp; try rfl
      · simp only [Act.put, List.setIfInBounds_toArray, List.set_cons_succ, List.set_cons_zero]; try rfl
      refine flows_take 5 (v := ?_) (a' := ?_) hps rfl (by kernel_rfl) rfl ?_ ?_ ?_
      rotate_left 2
      · intro w' hk; have hc := hk; go_simp; try rfl
      · simp only [Act.put, List.setIfInBounds_toArray, List.set_cons_succ, List.set_cons_zero]; try rfl
      refine flows_take 6 (v := ?_) (a' := ?_) hps rfl (by kernel_rfl) rfl ?_ ?_ ?_
      rotate_left 2
      · intro w' hk; go_simp; try rfl
      · simp only [Act.put, List.setIfInBounds_toArray, List.set_cons_succ, List.set_cons_zero]; try rfl
      refine flows_one 1 hps rfl (by kernel_rfl) rfl (wp_next (fun K hK => ?_))
      go_simp
      have kk9 := dk_Waiting SZd.out (i := 2) rfl
      with_reducible refine kk9.mono ?_
      clear kk9
      rintro e w' ⟨rfl, rfl⟩
      have kp := hcw
      refine hK _ _ ⟨kp, ?_⟩
      clear kp hK
      refine flows_take 7 (v := ?_) (a' := ?_) hps rfl (by kernel_rfl) rfl ?_ ?_ ?_
      rotate_left 2
      · intro w' hk; go_simp; try rfl
      · simp only [Act.put, List.setIfInBounds_toArray, List.set_cons_succ, List.set_cons_zero]; try rfl
      refine flows_done hps (by kernel_rfl) ?_
      go_wp2
      go_ret
      exact ⟨rfl, D, hlen, SZd.out.tail.tail⟩
    have e7 : (m == 7) = false := by rw [beq_eq_false_iff_ne]; exact h7
    clear h7
    have S2d := Lib.hid S2.out.drew
    have q1 := (S2d.out.row (i := 1) rfl).cell 1
    simp only [List.getElem?_cons_succ, List.getElem?_cons_zero] at q1
    have Q1 := Lib.hid q1
    clear q1
    have hrc := Dk.write_code D i b
    have hlen : (D.write i b).2.wait.length ≤ D.wait.length + 1 := by
      unfold Dk.write
      split
      · exact Nat.le_succ _
      · split
        · exact Nat.le_succ _
        · show (D.wait ++ [_]).length ≤ _
          rw [List.length_append]; exact Nat.le_refl _
    go_wp2
    refine flows_begin (S := (fun w' => w'.cell? ⟨bx, 1, none⟩ = some (.int .i64 i))) hmixed 12 rfl (by repeat (first | exact ps_body | refine ps_then ?_ | refine ps_block ?_)) Q1.out (fun hps => ?_)
    simp only [List.replicate]
    refine flows_take 0 (v := ?_) (a' := ?_) hps rfl (by kernel_rfl) rfl ?_ ?_ ?_
    rotate_left 2
    · intro w' hk; go_simp; try rfl
    · simp only [Act.put, List.setIfInBounds_toArray, List.set_cons_succ, List.set_cons_zero]; try rfl
    refine flows_take 1 (v := ?_) (a' := ?_) hps rfl (by kernel_rfl) rfl ?_ ?_ ?_
    rotate_left 2
    · intro w' hk; go_simp; try rfl
    · simp only [Act.put, List.setIfInBounds_toArray, List.set_cons_succ, List.set_cons_zero]; try rfl
    refine flows_take 2 (v := ?_) (a' := ?_) hps rfl (by kernel_rfl) rfl ?_ ?_ ?_
    rotate_left 2
    · intro w' hk; have hc := hk; go_simp; try rfl
    · simp only [Act.put, List.setIfInBounds_toArray, List.set_cons_succ, List.set_cons_zero]; try rfl
    refine flows_take 3 (v := ?_) (a' := ?_) hps rfl (by kernel_rfl) rfl ?_ ?_ ?_
    rotate_left 2
    · intro w' hk; go_simp; try rfl
    · simp only [Act.put, List.setIfInBounds_toArray, List.set_cons_succ, List.set_cons_zero]; try rfl
    refine flows_take 6 (v := ?_) (a' := ?_) hps rfl (by kernel_rfl) rfl ?_ ?_ ?_
    rotate_left 2
    · intro w' hk; go_simp; try rfl
    · simp only [Act.put, List.setIfInBounds_toArray, List.set_cons_succ, List.set_cons_zero]; try rfl
    refine flows_take 7 (v := ?_) (a' := ?_) hps rfl (by kernel_rfl) rfl ?_ ?_ ?_
    rotate_left 2
    · intro w' hk; go_simp; try rfl
    · simp only [Act.put, List.setIfInBounds_toArray, List.set_cons_succ, List.set_cons_zero]; try rfl
    refine flows_take 8 (v := ?_) (a' := ?_) hps rfl (by kernel_rfl) rfl ?_ ?_ ?_
    rotate_left 2
    · intro w' hk; have hc := hk; go_simp; try rfl
    · simp only [Act.put, List.setIfInBounds_toArray, List.set_cons_succ, List.set_cons_zero]; try rfl
    refine flows_take 9 (v := ?_) (a' := ?_) hps rfl (by kernel_rfl) rfl ?_ ?_ ?_
    rotate_left 2
    · intro w' hk; go_simp; try rfl
    · simp only [Act.put, List.setIfInBounds_toArray, List.set_cons_succ, List.set_cons_zero]; try rfl
    refine flows_one 4 hps rfl (by kernel_rfl) rfl (wp_next (fun K hK => ?_))
    go_simp
    have kk9 := dk_Write S2d.out (i := 2) rfl i _ _ _ b (S2d.out.bs DB.out DBB.out) (by omega)
    with_reducible refine kk9.mono ?_
    clear kk9
    rintro e w3 ⟨rfl, s3⟩
    have S3 := Lib.hid s3
    clear s3
    have q1' := (S3.out.row (i := 1) rfl).cell 1
    simp only [List.getElem?_cons_succ, List.getElem?_cons_zero] at q1'
    have kp := q1'
    refine hK _ _ ⟨kp, ?_⟩
    clear kp hK
    refine flows_one 5 hps rfl (by kernel_rfl) rfl (wp_next (fun K hK => ?_))
    go_simp
    have kk9 := code_err w3 (D.write i b).1 hrc.1 hrc.2
    with_reducible refine kk9.mono ?_
    clear kk9
    rintro e w' ⟨rfl, rfl⟩
    have q1' := (S3.out.row (i := 1) rfl).cell 1
    simp only [List.getElem?_cons_succ, List.getElem?_cons_zero] at q1'
    have kp := q1'
    refine hK _ _ ⟨kp, ?_⟩
    clear kp hK
    refine flows_one 10 hps rfl (by kernel_rfl) rfl (wp_next (fun K hK => ?_))
    go_simp
    have kk9 := rdk_Write S3.out (i := 3) rfl i _ _ _ b (S3.out.bs DB.out DBB.out) (by omega)
    with_reducible refine kk9.mono ?_
    clear kk9
    rintro e w4 ⟨rfl, s4⟩
    have SZ := Lib.hid s4
    clear s4
    have q1' := (SZ.out.row (i := 1) rfl).cell 1
    simp only [List.getElem?_cons_succ, List.getElem?_cons_zero] at q1'
    have kp := q1'
    refine hK _ _ ⟨kp, ?_⟩
    clear kp hK
    refine flows_take 11 (v := ?_) (a' := ?_) hps rfl (by kernel_rfl) rfl ?_ ?_ ?_
    rotate_left 2
    · intro w' hk; go_simp; try rfl
    · simp only [Act.put, List.setIfInBounds_toArray, List.set_cons_succ, List.set_cons_zero]; try rfl
    refine flows_done hps (by kernel_rfl) ?_
    generalize (D.write i b).1 = rc at *
    go_wp2_with fail
    have SZd := Lib.hid SZ.out.drew
    obtain ⟨_, _, aW, cW, _, hcw⟩ := rd_cells SZd.out (i := 3) rfl
    go_wp2
    refine flows_begin (S := (fun w' => w'.cell? ⟨q, 1, none⟩ = some (.slice aW ((D.write i b).2).wait.length cW))) hmixed 8 rfl (by repeat (first | exact ps_body | refine ps_then ?_ | refine ps_block ?_)) hcw (fun hps => ?_)
    simp only [List.replicate]
    refine flows_take 0 (v := ?_) (a' := ?_) hps rfl (by kernel_rfl) rfl ?_ ?_ ?_
    rotate_left 2
    · intro w' hk; go_simp; try rfl
    · simp only [Act.put, List.setIfInBounds_toArray, List.set_cons_succ, List.set_cons_zero]; try rfl
    refine flows_take 2 (v := ?_) (a' := ?_) hps rfl (by kernel_rfl) rfl ?_ ?_ ?_
    rotate_left 2
    · intro w' hk; go_simp; try rfl
    · simp only [Act.put, List.setIfInBounds_toArray, List.set_cons_succ, List.set_cons_zero]; try rfl
    refine flows_take 3 (v := ?_) (a' := ?_) hps rfl (by kernel_rfl) rfl ?_ ?_ ?_
    rotate_left 2
    · intro w' hk; go_simp; try rfl
    · simp only [Act.put, List.setIfInBounds_toArray, List.set_cons_succ, List.set_cons_zero]; try rfl
    refine flows_take 4 (v := ?_) (a' := ?_) hps rfl (by kernel_rfl) rfl ?_ ?_ ?_
    rotate_left 2
    · intro w' hk; go_simp; try rfl
    · simp only [Act.put, List.setIfInBounds_toArray, List.set_cons_succ, List.set_cons_zero]; try rfl
    refine flows_take 5 (v := ?_) (a' := ?_) hps rfl (by kernel_rfl) rfl ?_ ?_ ?_
    rotate_left 2
    · intro w' hk; have hc := hk; go_simp; try rfl
    · simp only [Act.put, List.setIfInBounds_toArray, List.set_cons_succ, List.set_cons_zero]; try rfl
    refine flows_take 6 (v := ?_) (a' := ?_) hps rfl (by kernel_rfl) rfl ?_ ?_ ?_
    rotate_left 2
    · intro w' hk; go_simp; try rfl
    · simp only [Act.put, List.setIfInBounds_toArray, List.set_cons_succ, List.set_cons_zero]; try rfl
    refine flows_one 1 hps rfl (by kernel_rfl) rfl (wp_next (fun K hK => ?_))
    go_simp
    have kk9 := dk_Waiting SZd.out (i := 2) rfl
    with_reducible refine kk9.mono ?_
    clear kk9
    rintro e w' ⟨rfl, rfl⟩
    have kp := hcw
    refine hK _ _ ⟨kp, ?_⟩
    clear kp hK
    refine flows_take 7 (v := ?_) (a' := ?_) hps rfl (by kernel_rfl) rfl ?_ ?_ ?_
    rotate_left 2
    · intro w' hk; go_simp; try rfl
    · simp only [Act.put, List.setIfInBounds_toArray, List.set_cons_succ, List.set_cons_zero]; try rfl
    refine flows_done hps (by kernel_rfl) ?_
    go_wp2
    go_ret
    exact ⟨rfl, (D.write i b).2, hlen, SZd.out.tail.tail⟩
end Go.Proofs.Ytjijniillehfoaa
