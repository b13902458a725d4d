/- cantlelaw03.do: a deed, with an arena and the reference's. -/
import Derived.Test.YtjijniillehfoaaLAr1
import Derived.Test.YtjijniillehfoaaLaw0
namespace Go.Proofs.Ytjijniillehfoaa
open Go Go.RowKit Go.Own
set_option linter.unusedVariables false
set_option maxRecDepth 100000
def DoOk3 (B : Nat) (w0 : World) (p q : Nat) (A : Ar) (r : List Ob) (e : Ending) (w' : World) : Prop :=
  e = .returned (.int .i64 1) ∧ ∃ A' : Ar, A'.base = A.base ∧ St B w0 w' (ArT p A' :: RaT q A' :: r)
theorem wrapI64_rng (N : Int) : -9223372036854775808 ≤ wrap64 N ∧ wrap64 N ≤ 9223372036854775807 := by unfold wrap64; omega
set_option maxHeartbeats 2000000 in
theorem law03_do {B : Nat} {w0 : World} (w : World) (p q : Nat) (A : Ar) (r : List Ob) (h : St B w0 w (ArT p A :: RaT q A :: r)) (d : De3) (hd : d.Ok w0) (hbB : ∀ x, d.ba = some x → 0 < d.b.length → x.block < B) :
    Calls Try.prog 43 #[arP p, arP q, .agg d.cells.toArray] w (DoOk3 B w0 p q A r) := by
  have h1 := h.addRow 58 d.cells
  have hA1 : A.base ≤ 4611686018427387904 ∧ A.b.length ≤ 16384 := by obtain ⟨v, ha⟩ := h.ar (i := 0) rfl; exact ⟨ha.hbase, Nat.le_trans ha.hlen ha.hcap⟩
  obtain ⟨hb0, hl0⟩ := hA1
  obtain ⟨dw, dad, dfr, dn, dv, db⟩ := hd
  have db' := h1.bs db hbB
  obtain ⟨bx, hbx⟩ : ∃ bx, bx = w.heap.size := ⟨_, rfl⟩
  have HD1 := Lib.hid (fun (n : Int) (n0 : 0 ≤ n) (n1 : n ≤ 18446744073709551615) (w : World) => law03_at w d A.base n (by omega) (by omega) n0 n1)
  obtain ⟨what, addr, fr, nn, v, x, ba, bn, bc, b⟩ := d
  simp only at dw dad dfr dn dv db hbB db'
  have hbn := db.len
  subst hbn
  have cb := Sl.cap db; have rb := Sl.room db
  have DB := Lib.hid db; have DBB := Lib.hid hbB
  clear h db db' hbB
  unfold De3.cells at h1 HD1 ⊢
  simp only at h1 HD1 ⊢
  go_enter Try.func43, Try.ntmps43
  go_wp2_with fail
  rw [← hbx] at h1 ⊢
  have HBX := Lib.hid hbx; clear hbx
  generalize w.alloc (.cells [.int .i64 what, .int .u64 addr, .int .u64 fr, .int .u64 nn, .int .u64 v, .int .u8 (x.toNat : Nat), .slice ba b.length bc].toArray 58 (0, 0)) = W1 at h1 ⊢
  have Hh1 := Lib.hid h1
  obtain ⟨vm, hm⟩ := h1.ar (i := 2) rfl
  have HMR := Lib.hid hm.row.drew
  have HR := Lib.hid (h1.row (i := 0) rfl).drew
  clear h1 hm
  go_wp2
  refine flowe_begin (F := fun _ => False) hmixed 9 rfl (by repeat (first | exact ps_body | refine ps_then ?_ | refine ps_block ?_)) (fun hps => ?_)
  simp only [List.replicate]
  have kk := (Keep.refl (fun _ => False) (W1)).drew
  refine flowe_take 0 (v := ?_) (a' := ?_) hps rfl (by kernel_rfl) rfl ?_ ?_ ?_
  rotate_left 2
  · intro w' hk; have rr := HR.out.keep hk (fun h => h); have c0 := rr.cell 0; have c1 := rr.cell 1; have c2 := rr.cell 2; have c3 := rr.cell 3; have c4 := rr.cell 4; have c5 := rr.cell 5; have c6 := rr.cell 6; simp only [List.getElem?_cons_succ, List.getElem?_cons_zero] at c0 c1 c2 c3 c4 c5 c6; go_simp; try rfl
  · simp only [Act.put, List.setIfInBounds_toArray, List.set_cons_succ, List.set_cons_zero]; try rfl
  refine flowe_take 1 (v := ?_) (a' := ?_) hps rfl (by kernel_rfl) rfl ?_ ?_ ?_
  rotate_left 2
  · intro w' hk; go_simp; try rfl
  · simp only [Act.put, List.setIfInBounds_toArray, List.set_cons_succ, List.set_cons_zero]; try rfl
  refine flowe_take 2 (v := ?_) (a' := ?_) hps rfl (by kernel_rfl) rfl ?_ ?_ ?_
  rotate_left 2
  · intro w' hk; go_simp; try rfl
  · simp only [Act.put, List.setIfInBounds_toArray, List.set_cons_succ, List.set_cons_zero]; try rfl
  refine flowe_take 3 (v := ?_) (a' := ?_) hps rfl (by kernel_rfl) rfl ?_ ?_ ?_
  rotate_left 2
  · intro w' hk; go_simp; try rfl
  · simp only [Act.put, List.setIfInBounds_toArray, List.set_cons_succ, List.set_cons_zero]; try rfl
  refine flowe_take 4 (v := ?_) (a' := ?_) hps rfl (by kernel_rfl) rfl ?_ ?_ ?_
  rotate_left 2
  · intro w' hk; have hc := (HMR.out.keep hk (fun h => h)).cell 0; simp only [List.getElem?_cons_zero] at hc; go_simp; try rfl
  · simp only [Act.put, List.setIfInBounds_toArray, List.set_cons_succ, List.set_cons_zero]; try rfl
  refine flowe_take 5 (v := ?_) (a' := ?_) hps rfl (by kernel_rfl) rfl ?_ ?_ ?_
  rotate_left 2
  · intro w' hk; go_simp; try rfl
  · simp only [Act.put, List.setIfInBounds_toArray, List.set_cons_succ, List.set_cons_zero]; try rfl
  refine flowe_take 6 (v := ?_) (a' := ?_) hps rfl (by kernel_rfl) rfl ?_ ?_ ?_
  rotate_left 2
  · intro w' hk; have hc := (HR.out.keep hk (fun h => h)).cell 1; simp only [List.getElem?_cons_succ, List.getElem?_cons_zero] at hc; go_simp; try rfl
  · simp only [Act.put, List.setIfInBounds_toArray, List.set_cons_succ, List.set_cons_zero]; try rfl
  refine flowe_one 7 hps rfl (by kernel_rfl) rfl (wp_next (fun K hK => ?_))
  go_simp
  refine (HD1.out addr (by omega) (by omega) _).mono ?_
  rintro e W2 ⟨rfl, bw⟩
  have kp := Keep.of_below (F := fun _ => False) bw
  clear bw
  refine hK _ _ (flow_step kk ?_ ?_)
  · first | exact kp | exact Keep.refl _ _ | exact (Keep.refl _ _).alloc _
  clear kk hK; try clear kp
  intro kk
  refine flowe_take 8 (v := ?_) (a' := ?_) hps rfl (by kernel_rfl) rfl ?_ ?_ ?_
  rotate_left 2
  · intro w' hk; go_simp; try rfl
  · simp only [Act.put, List.setIfInBounds_toArray, List.set_cons_succ, List.set_cons_zero]; try rfl
  refine flowe_done hps (by kernel_rfl) ?_
  have h2 := Hh1.out.below (kk.below (Nat.le_refl _) fun _ _ h => h)
  clear kk HMR HR Hh1
  have Hh2 := Lib.hid h2
  obtain ⟨vm, hm⟩ := h2.ar (i := 2) rfl
  have HMR := Lib.hid hm.row.drew
  have HR := Lib.hid (h2.row (i := 0) rfl).drew
  clear h2 hm
  go_wp2
  refine flowe_begin (F := fun _ => False) hmixed 9 rfl (by repeat (first | exact ps_body | refine ps_then ?_ | refine ps_block ?_)) (fun hps => ?_)
  simp only [List.replicate]
  have kk := (Keep.refl (fun _ => False) (W2)).drew
  refine flowe_take 0 (v := ?_) (a' := ?_) hps rfl (by kernel_rfl) rfl ?_ ?_ ?_
  rotate_left 2
  · intro w' hk; have rr := HR.out.keep hk (fun h => h); have c0 := rr.cell 0; have c1 := rr.cell 1; have c2 := rr.cell 2; have c3 := rr.cell 3; have c4 := rr.cell 4; have c5 := rr.cell 5; have c6 := rr.cell 6; simp only [List.getElem?_cons_succ, List.getElem?_cons_zero] at c0 c1 c2 c3 c4 c5 c6; go_simp; try rfl
  · simp only [Act.put, List.setIfInBounds_toArray, List.set_cons_succ, List.set_cons_zero]; try rfl
  refine flowe_take 1 (v := ?_) (a' := ?_) hps rfl (by kernel_rfl) rfl ?_ ?_ ?_
  rotate_left 2
  · intro w' hk; go_simp; try rfl
  · simp only [Act.put, List.setIfInBounds_toArray, List.set_cons_succ, List.set_cons_zero]; try rfl
  refine flowe_take 2 (v := ?_) (a' := ?_) hps rfl (by kernel_rfl) rfl ?_ ?_ ?_
  rotate_left 2
  · intro w' hk; go_simp; try rfl
  · simp only [Act.put, List.setIfInBounds_toArray, List.set_cons_succ, List.set_cons_zero]; try rfl
  refine flowe_take 3 (v := ?_) (a' := ?_) hps rfl (by kernel_rfl) rfl ?_ ?_ ?_
  rotate_left 2
  · intro w' hk; go_simp; try rfl
  · simp only [Act.put, List.setIfInBounds_toArray, List.set_cons_succ, List.set_cons_zero]; try rfl
  refine flowe_take 4 (v := ?_) (a' := ?_) hps rfl (by kernel_rfl) rfl ?_ ?_ ?_
  rotate_left 2
  · intro w' hk; have hc := (HMR.out.keep hk (fun h => h)).cell 0; simp only [List.getElem?_cons_zero] at hc; go_simp; try rfl
  · simp only [Act.put, List.setIfInBounds_toArray, List.set_cons_succ, List.set_cons_zero]; try rfl
  refine flowe_take 5 (v := ?_) (a' := ?_) hps rfl (by kernel_rfl) rfl ?_ ?_ ?_
  rotate_left 2
  · intro w' hk; go_simp; try rfl
  · simp only [Act.put, List.setIfInBounds_toArray, List.set_cons_succ, List.set_cons_zero]; try rfl
  refine flowe_take 6 (v := ?_) (a' := ?_) hps rfl (by kernel_rfl) rfl ?_ ?_ ?_
  rotate_left 2
  · intro w' hk; have hc := (HR.out.keep hk (fun h => h)).cell 2; simp only [List.getElem?_cons_succ, List.getElem?_cons_zero] at hc; go_simp; try rfl
  · simp only [Act.put, List.setIfInBounds_toArray, List.set_cons_succ, List.set_cons_zero]; try rfl
  refine flowe_one 7 hps rfl (by kernel_rfl) rfl (wp_next (fun K hK => ?_))
  go_simp
  refine (HD1.out fr (by omega) (by omega) _).mono ?_
  rintro e W3 ⟨rfl, bw⟩
  have kp := Keep.of_below (F := fun _ => False) bw
  clear bw
  refine hK _ _ (flow_step kk ?_ ?_)
  · first | exact kp | exact Keep.refl _ _ | exact (Keep.refl _ _).alloc _
  clear kk hK; try clear kp
  intro kk
  refine flowe_take 8 (v := ?_) (a' := ?_) hps rfl (by kernel_rfl) rfl ?_ ?_ ?_
  rotate_left 2
  · intro w' hk; go_simp; try rfl
  · simp only [Act.put, List.setIfInBounds_toArray, List.set_cons_succ, List.set_cons_zero]; try rfl
  refine flowe_done hps (by kernel_rfl) ?_
  have h3 := Hh2.out.below (kk.below (Nat.le_refl _) fun _ _ h => h)
  clear kk HMR HR Hh2
  have had := atV_rng (what := what) (base := A.base) (n := addr) (by omega) (by omega) dad.1 dad.2
  have hfa := atV_rng (what := what) (base := A.base) (n := fr) (by omega) (by omega) dfr.1 dfr.2
  generalize atV what A.base addr = ad at *
  generalize atV what A.base fr = fa at *
  have q0 := (h3.row (i := 0) rfl).cell 0
  have q3 := (h3.row (i := 0) rfl).cell 3
  simp only [List.getElem?_cons_succ, List.getElem?_cons_zero] at q0 q3
  have S3 := Lib.hid h3
  clear h3 HD1 HBX
  by_cases hw : what < 0
  · have hN : 0 ≤ (nn % 3000) ∧ (nn % 3000) ≤ 18446744073709551615 := by omega
    go_wp2_with fail
    refine (law_Pick _ what 9 dw.1 dw.2 (by decide) (by decide)).mono ?_
    rintro e w' ⟨rfl, rfl⟩
    generalize what % 9 = m
    have hwr := wrapI64_rng (nn % 3000)
    generalize nn % 3000 = N at *
    by_cases h0 : m = 0
    · subst h0
      go_wp2_with fail
      have kc := ar_Grow S3.out (i := 1) rfl (wrap64 N)
      with_reducible refine kc.mono ?_
      clear kc
      rintro e w4 ⟨rfl, s4⟩
      have S4 := Lib.hid s4
      clear s4
      have hc := Ar.grow_code A (wrap64 N)
      have HC := Lib.hid hc.2.2
      go_wp2_with fail
      have kc := code_errV w4 _ hc.1 hc.2.1
      with_reducible refine kc.mono ?_
      clear kc
      rintro e w' ⟨rfl, rfl⟩
      go_wp2_with fail
      have kc := rar_Grow S4.out (i := 2) rfl (wrap64 N) hwr.1 hwr.2
      with_reducible refine kc.mono ?_
      clear kc
      rintro e w5 ⟨rfl, s5⟩
      have hs := run_s w5 (Bs.nil w5)
      have HZ := Lib.hid s5.tail
      clear s5
      go_wp2
      go_ret
      exact ⟨rfl, (A.grow (wrap64 N)).2, HC.out, HZ.out⟩
    have e0 : (m == 0) = false := by rw [beq_eq_false_iff_ne]; exact h0
    clear h0
    by_cases h1 : m = 1
    · subst h1
      go_wp2_with fail
      have kc := ar_Widen S3.out (i := 1) rfl (wrap64 N)
      with_reducible refine kc.mono ?_
      clear kc
      rintro e w4 ⟨rfl, s4⟩
      have S4 := Lib.hid s4
      clear s4
      have hc := Ar.widen_code A (wrap64 N)
      have HC := Lib.hid hc.2.2
      go_wp2_with fail
      have kc := code_errV w4 _ hc.1 hc.2.1
      with_reducible refine kc.mono ?_
      clear kc
      rintro e w' ⟨rfl, rfl⟩
      go_wp2_with fail
      have kc := rar_Widen S4.out (i := 2) rfl (wrap64 N)
      with_reducible refine kc.mono ?_
      clear kc
      rintro e w5 ⟨rfl, s5⟩
      have hs := run_s w5 (Bs.nil w5)
      have HZ := Lib.hid s5.tail
      clear s5
      go_wp2
      go_ret
      exact ⟨rfl, (A.widen (wrap64 N)).2, HC.out, HZ.out⟩
    have e1 : (m == 1) = false := by rw [beq_eq_false_iff_ne]; exact h1
    clear h1
    by_cases h2 : m = 2
    · subst h2
      go_wp2_with fail
      have kc := ar_Load S3.out (i := 1) rfl ad N had.1 had.2 hN.1 hN.2
      with_reducible refine kc.mono ?_
      clear kc
      rintro e w4 ⟨v4, rfl, s4⟩
      obtain ⟨a4, c4, rfl, t4⟩ := s4.ownBs
      have S4 := Lib.hid t4
      clear s4 t4
      go_wp2_with fail
      have kc := rar_Load S4.out (i := 3) rfl ad N had.1 had.2 hN.1 hN.2
      with_reducible refine kc.mono ?_
      clear kc
      rintro e w5 ⟨v5, rfl, s5⟩
      obtain ⟨a5, c5, rfl, t5⟩ := s5.ownBs
      have hc := Ar.load_code A ad N
      have hs1 := run_s w5 (t5.bsO (i := 0) rfl)
      have hs2 := run_s w5 (t5.bsO (i := 1) rfl)
      have HZ := Lib.hid t5.tail.tail.tail
      clear s5 t5
      go_wp2_with fail
      have kc := code_errV w5 _ hc.1 hc.2
      with_reducible refine kc.mono ?_
      clear kc
      rintro e w' ⟨rfl, rfl⟩
      go_wp2
      go_ret
      exact ⟨rfl, A, rfl, HZ.out⟩
    have e2 : (m == 2) = false := by rw [beq_eq_false_iff_ne]; exact h2
    clear h2
    by_cases h3 : m = 3
    · subst h3
      have q6 := (S3.out.row (i := 0) rfl).cell 6
      simp only [List.getElem?_cons_succ, List.getElem?_cons_zero] at q6
      have DB3 := Lib.hid (S3.out.bs DB.out DBB.out)
      go_wp2_with fail
      have kc := ar_Store S3.out (i := 1) rfl ad had.1 had.2 _ _ _ b DB3.out
      with_reducible refine kc.mono ?_
      clear kc
      rintro e w4 ⟨rfl, s4⟩
      have q6' := (s4.row (i := 0) rfl).cell 6
      simp only [List.getElem?_cons_succ, List.getElem?_cons_zero] at q6'
      have DB4 := Lib.hid (s4.bs DB.out DBB.out)
      have S4 := Lib.hid s4
      clear s4
      have hc := Ar.store_code A ad b
      have HC := Lib.hid hc.2.2
      go_wp2_with fail
      have kc := code_errV w4 _ hc.1 hc.2.1
      with_reducible refine kc.mono ?_
      clear kc
      rintro e w' ⟨rfl, rfl⟩
      go_wp2_with fail
      have kc := rar_Store S4.out (i := 2) rfl ad had.1 had.2 _ _ _ b DB4.out (arg_apart S4.out (i := 2) rfl DBB.out)
      with_reducible refine kc.mono ?_
      clear kc
      rintro e w5 ⟨rfl, s5⟩
      have hs := run_s w5 (Bs.nil w5)
      have HZ := Lib.hid s5.tail
      clear s5
      go_wp2
      go_ret
      exact ⟨rfl, (A.store ad b).2, HC.out, HZ.out⟩
    have e3 : (m == 3) = false := by rw [beq_eq_false_iff_ne]; exact h3
    clear h3
    by_cases h4 : m = 4
    · subst h4
      go_wp2_with fail
      have kc := ar_Word S3.out (i := 1) rfl ad had.1 had.2
      with_reducible refine kc.mono ?_
      clear kc
      rintro e w' ⟨rfl, rfl⟩
      go_wp2_with fail
      have kc := rar_Word S3.out (i := 2) rfl ad had.1 had.2
      with_reducible refine kc.mono ?_
      clear kc
      rintro e w5 ⟨rfl, s5⟩
      have hc := Ar.word_code A ad
      have hs := run_s w5 (Bs.nil w5)
      have HZ := Lib.hid s5.tail
      clear s5
      go_wp2_with fail
      have kc := code_errV w5 _ hc.1 hc.2
      with_reducible refine kc.mono ?_
      clear kc
      rintro e w' ⟨rfl, rfl⟩
      go_wp2
      go_ret
      exact ⟨rfl, A, rfl, HZ.out⟩
    have e4 : (m == 4) = false := by rw [beq_eq_false_iff_ne]; exact h4
    clear h4
    by_cases h5 : m = 5
    · subst h5
      have q4 := (S3.out.row (i := 0) rfl).cell 4
      simp only [List.getElem?_cons_succ, List.getElem?_cons_zero] at q4
      go_wp2_with fail
      have kc := ar_SetWord S3.out (i := 1) rfl ad v had.1 had.2 dv.1 dv.2
      with_reducible refine kc.mono ?_
      clear kc
      rintro e w4 ⟨rfl, s4⟩
      have q4' := (s4.row (i := 0) rfl).cell 4
      simp only [List.getElem?_cons_succ, List.getElem?_cons_zero] at q4'
      have S4 := Lib.hid s4
      clear s4
      have hc := Ar.store_code A ad (low v.toNat 8)
      have HC := Lib.hid hc.2.2
      go_wp2_with fail
      have kc := code_errV w4 _ hc.1 hc.2.1
      with_reducible refine kc.mono ?_
      clear kc
      rintro e w' ⟨rfl, rfl⟩
      go_wp2_with fail
      have kc := law03_low w4 v dv.1 dv.2
      with_reducible refine kc.mono ?_
      clear kc
      rintro e w5 ⟨v5, rfl, o5, b5⟩
      have s5 := S4.out.addOwn b5 o5
      obtain ⟨a5, c5, rfl, t5⟩ := s5.ownBs
      have hb5 := t5.bsO (i := 0) rfl
      have S5 := Lib.hid t5; have HB5 := Lib.hid hb5
      clear o5 b5 s5 t5 hb5
      go_wp2_with fail
      have kc := rar_Store S5.out (i := 3) rfl ad had.1 had.2 _ _ _ _ HB5.out (own_apart S5.out (i := 2) rfl)
      with_reducible refine kc.mono ?_
      clear kc
      rintro e w6 ⟨rfl, s6⟩
      have hs := run_s w6 (Bs.nil w6)
      have HZ := Lib.hid s6.tail.tail
      clear s6
      go_wp2
      go_ret
      exact ⟨rfl, (A.store ad (low v.toNat 8)).2, HC.out, HZ.out⟩
    have e5 : (m == 5) = false := by rw [beq_eq_false_iff_ne]; exact h5
    clear h5
    by_cases h6 : m = 6
    · subst h6
      go_wp2_with fail
      have kc := ar_Copy S3.out (i := 1) rfl ad fa N had.1 had.2 hfa.1 hfa.2 hN.1 hN.2
      with_reducible refine kc.mono ?_
      clear kc
      rintro e w4 ⟨rfl, s4⟩
      have S4 := Lib.hid s4
      clear s4
      have hc := Ar.copy_code A ad fa N
      have HC := Lib.hid hc.2.2
      go_wp2_with fail
      have kc := code_errV w4 _ hc.1 hc.2.1
      with_reducible refine kc.mono ?_
      clear kc
      rintro e w' ⟨rfl, rfl⟩
      go_wp2_with fail
      have kc := rar_Copy S4.out (i := 2) rfl ad fa N had.1 had.2 hfa.1 hfa.2 hN.1 hN.2
      with_reducible refine kc.mono ?_
      clear kc
      rintro e w5 ⟨rfl, s5⟩
      have hs := run_s w5 (Bs.nil w5)
      have HZ := Lib.hid s5.tail
      clear s5
      go_wp2
      go_ret
      exact ⟨rfl, (A.copy ad fa N).2, HC.out, HZ.out⟩
    have e6 : (m == 6) = false := by rw [beq_eq_false_iff_ne]; exact h6
    clear h6
    by_cases h7 : m = 7
    · subst h7
      have q5 := (S3.out.row (i := 0) rfl).cell 5
      simp only [List.getElem?_cons_succ, List.getElem?_cons_zero] at q5
      go_wp2_with fail
      have kc := ar_Fill S3.out (i := 1) rfl ad N x had.1 had.2 hN.1 hN.2
      with_reducible refine kc.mono ?_
      clear kc
      rintro e w4 ⟨rfl, s4⟩
      have q5' := (s4.row (i := 0) rfl).cell 5
      simp only [List.getElem?_cons_succ, List.getElem?_cons_zero] at q5'
      have S4 := Lib.hid s4
      clear s4
      have hc := Ar.fill_code A ad N x
      have HC := Lib.hid hc.2.2
      go_wp2_with fail
      have kc := code_errV w4 _ hc.1 hc.2.1
      with_reducible refine kc.mono ?_
      clear kc
      rintro e w' ⟨rfl, rfl⟩
      go_wp2_with fail
      have kc := rar_Fill S4.out (i := 2) rfl ad N x had.1 had.2 hN.1 hN.2
      with_reducible refine kc.mono ?_
      clear kc
      rintro e w5 ⟨rfl, s5⟩
      have hs := run_s w5 (Bs.nil w5)
      have HZ := Lib.hid s5.tail
      clear s5
      go_wp2
      go_ret
      exact ⟨rfl, (A.fill ad N x).2, HC.out, HZ.out⟩
    have e7 : (m == 7) = false := by rw [beq_eq_false_iff_ne]; exact h7
    clear h7
    go_wp2_with fail
    have kc := ar_Clone S3.out (i := 1) rfl
    with_reducible refine kc.mono ?_
    clear kc
    rintro e w4 ⟨oq, rfl, s4⟩
    have S4 := Lib.hid s4.drew
    clear s4
    obtain ⟨vm, hm⟩ := S4.out.ar (i := 3) rfl
    obtain ⟨vp, hap, hto⟩ := S4.out.arTo (i := 2) rfl
    have hsep : ∀ x, arF q vm x → ¬ vp.ownBlock = some x := by
      obtain ⟨FP, FM, ⟨v1, g1, g2, _⟩, ⟨v2, g3, g4, _⟩, g5⟩ := S4.out.two (i := 2) (j := 3) rfl rfl (by decide)
      have e1 : v1 = vp := by have r1 := g1.row.cell 2; have r2 := hap.row.cell 2; rw [r1] at r2; simpa using r2
      have e2 : v2 = vm := by have r1 := g3.row.cell 2; have r2 := hm.row.cell 2; rw [r1] at r2; simpa using r2
      subst e1; subst e2
      exact fun x hx hp => g5 x (g2 x (.inr hp)) (g4 x hx)
    obtain ⟨am, cm, rfl, _, hmo, _⟩ := hm.form
    obtain ⟨M, hM⟩ : ∃ M : Nat, M = min A.b.length 9 := ⟨_, rfl⟩
    have hMl : M ≤ A.b.length := by omega
    have hM9 : M ≤ 9 := by omega
    have hmx : (if (A.b.length : Int) < 0 then 0 else (A.b.length : Int)) = (A.b.length : Int) := by rw [if_neg (by omega)]
    have hmn : (if 9 < (A.b.length : Int) then 9 else (A.b.length : Int)) = (M : Int) := by split <;> omega
    have hwu : IntKind.u64.wrap (M : Int) = (M : Int) := wrapU64 (by omega) (by omega)
    have HMM := Lib.hid hM
    have HM := Lib.hid hm; have HAP := Lib.hid hap; have HTO := Lib.hid hto; have HSEP := Lib.hid hsep; have HMO := Lib.hid hmo
    clear hm hap hto hsep hmo hM
    go_wp2
    refine flowe_begin (F := fun k => vp.ownBlock = some k) hmixed 39 rfl (by repeat (first | exact ps_body | refine ps_then ?_ | refine ps_block ?_)) (fun hps => ?_)
    simp only [List.replicate]
    have kk := (Keep.refl (fun k => vp.ownBlock = some k) (w4)).drew
    refine flowe_take 0 (v := ?_) (a' := ?_) hps rfl (by kernel_rfl) rfl ?_ ?_ ?_
    rotate_left 2
    · intro w' hk; go_simp; try rfl
    · simp only [Act.put, List.setIfInBounds_toArray, List.set_cons_succ, List.set_cons_zero]; try rfl
    refine flowe_take 1 (v := ?_) (a' := ?_) hps rfl (by kernel_rfl) rfl ?_ ?_ ?_
    rotate_left 2
    · intro w' hk; go_simp; try rfl
    · simp only [Act.put, List.setIfInBounds_toArray, List.set_cons_succ, List.set_cons_zero]; try rfl
    refine flowe_take 3 (v := ?_) (a' := ?_) hps rfl (by kernel_rfl) rfl ?_ ?_ ?_
    rotate_left 2
    · intro w' hk; go_simp; try rfl
    · simp only [Act.put, List.setIfInBounds_toArray, List.set_cons_succ, List.set_cons_zero]; try rfl
    refine flowe_one 2 hps rfl (by kernel_rfl) rfl (wp_next (fun K hK => ?_))
    go_simp
    have kc := arena_Base w4.drew p A vp HAP.out
    refine kc.mono ?_
    clear kc
    rintro e w' ⟨rfl, rfl⟩
    refine hK _ _ (flow_step kk ?_ ?_)
    · first | exact kp | exact Keep.refl _ _ | exact (Keep.refl _ _).alloc _
    clear kk hK; try clear kp
    intro kk
    refine flowe_one 4 hps rfl (by kernel_rfl) rfl (wp_next (fun K hK => ?_))
    go_simp
    have kc := arena_Len w4.drew p A vp HAP.out
    refine kc.mono ?_
    clear kc
    rintro e w' ⟨rfl, rfl⟩
    refine hK _ _ (flow_step kk ?_ ?_)
    · first | exact kp | exact Keep.refl _ _ | exact (Keep.refl _ _).alloc _
    clear kk hK; try clear kp
    intro kk
    refine flowe_take 5 (v := ?_) (a' := ?_) hps rfl (by kernel_rfl) rfl ?_ ?_ ?_
    rotate_left 2
    · intro w' hk; go_simp; try rfl
    · simp only [Act.put, List.setIfInBounds_toArray, List.set_cons_succ, List.set_cons_zero]; try rfl
    refine flowe_take 6 (v := ?_) (a' := ?_) hps rfl (by kernel_rfl) rfl ?_ ?_ ?_
    rotate_left 2
    · intro w' hk; go_simp; try rfl
    · simp only [Act.put, List.setIfInBounds_toArray, List.set_cons_succ, List.set_cons_zero]; try rfl
    refine flowe_take 7 (v := ?_) (a' := ?_) hps rfl (by kernel_rfl) rfl ?_ ?_ ?_
    rotate_left 2
    · intro w' hk; go_simp; try rfl
    · simp only [Act.put, List.setIfInBounds_toArray, List.set_cons_succ, List.set_cons_zero]; try rfl
    refine flowe_one 8 hps rfl (by kernel_rfl) rfl (wp_next (fun K hK => ?_))
    go_simp
    clear hmx hmn hwu
    have kc := arena_Fill_ok w4.drew p A vp HAP.out A.base 0 (by simp) M M rfl (by omega) 7
    refine kc.mono ?_
    clear kc
    rintro e w5 ⟨rfl, h2, k2⟩
    have kp := k2
    have HM5 := Lib.hid (HM.out.kept k2 HSEP.out)
    have S5 := Lib.hid (HTO.out w5 _ vp h2 (k2.mono fun _ _ h => .inr h) (.inl rfl))
    have VP5 := Lib.hid (fun g hg => (own_block_lt h2.own (g := g) hg).2)
    clear h2 k2
    refine hK _ _ (flow_step kk ?_ ?_)
    · first | exact kp | exact Keep.refl _ _ | exact (Keep.refl _ _).alloc _
    clear kk hK; try clear kp
    intro kk
    refine flowe_take 9 (v := ?_) (a' := ?_) hps rfl (by kernel_rfl) rfl ?_ ?_ ?_
    rotate_left 2
    · intro w' hk; go_simp; try rfl
    · simp only [Act.put, List.setIfInBounds_toArray, List.set_cons_succ, List.set_cons_zero]; try rfl
    refine flowe_take 10 (v := ?_) (a' := ?_) hps rfl (by kernel_rfl) rfl ?_ ?_ ?_
    rotate_left 2
    · intro w' hk; go_simp; try rfl
    · simp only [Act.put, List.setIfInBounds_toArray, List.set_cons_succ, List.set_cons_zero]; try rfl
    refine flowe_take 11 (v := ?_) (a' := ?_) hps rfl (by kernel_rfl) rfl ?_ ?_ ?_
    rotate_left 2
    · intro w' hk; go_simp; try rfl
    · simp only [Act.put, List.setIfInBounds_toArray, List.set_cons_succ, List.set_cons_zero]; try rfl
    refine flowe_take 14 (v := ?_) (a' := ?_) hps rfl (by kernel_rfl) rfl ?_ ?_ ?_
    rotate_left 2
    · intro w' hk; go_simp; try rfl
    · simp only [Act.put, List.setIfInBounds_toArray, List.set_cons_succ, List.set_cons_zero]; try rfl
    refine flowe_take 15 (v := ?_) (a' := ?_) hps rfl (by kernel_rfl) rfl ?_ ?_ ?_
    rotate_left 2
    · intro w' hk; go_simp; try rfl
    · simp only [Act.put, List.setIfInBounds_toArray, List.set_cons_succ, List.set_cons_zero]; try rfl
    refine flowe_take 16 (v := ?_) (a' := ?_) hps rfl (by kernel_rfl) rfl ?_ ?_ ?_
    rotate_left 2
    · intro w' hk; go_simp; try rfl
    · simp only [Act.put, List.setIfInBounds_toArray, List.set_cons_succ, List.set_cons_zero]; try rfl
    refine flowe_take 17 (v := ?_) (a' := ?_) hps rfl (by kernel_rfl) rfl ?_ ?_ ?_
    rotate_left 2
    · intro w' hk; have hc := (HM5.out.row.keep hk (HSEP.out q (.inl rfl))).cell 2; simp only [List.getElem?_cons_succ, List.getElem?_cons_zero] at hc; go_simp; try rfl
    · simp only [Act.put, List.setIfInBounds_toArray, List.set_cons_succ, List.set_cons_zero]; try rfl
    refine flowe_take 18 (v := ?_) (a' := ?_) hps rfl (by kernel_rfl) rfl ?_ ?_ ?_
    rotate_left 2
    · intro w' hk; have hs := run_s w' (show Bs w' am A.b.length cm A.b from by obtain ⟨a', c', e, hb, _, _⟩ := (HM5.out.kept hk HSEP.out).form; cases e; exact hb); go_simp; try rfl
    · simp only [Act.put, List.setIfInBounds_toArray, List.set_cons_succ, List.set_cons_zero]; try rfl
    refine flowe_one 12 hps rfl (by kernel_rfl) rfl (wp_next (fun K hK => ?_))
    go_simp
    obtain ⟨vo, ho⟩ := S5.out.ar (i := 0) rfl
    have kc := law_Bytes w5 oq A vo ho
    refine kc.mono ?_
    clear kc
    rintro e w6 ⟨v6, rfl, o6, b6⟩
    have kp := Keep.of_below (F := fun k => vp.ownBlock = some k) b6
    obtain ⟨a6, c6, rfl, hn6, hb6⟩ := Sl.of_owned o6
    have HO6 := Lib.hid (ho.below b6)
    have HM6 := Lib.hid (HM5.out.below b6)
    have S6 := Lib.hid (S5.out.below b6)
    have HB6 := Lib.hid (show Bs w6 a6 A.b.length c6 A.b from hb6)
    have HN6 := Lib.hid (show ∀ x, a6 = some x → ¬ vp.ownBlock = some x.block from fun x hx hv => by have h1 := hn6 x hx; have h2 := VP5.out _ hv; omega)
    clear o6 b6 hn6 hb6
    refine hK _ _ (flow_step kk ?_ ?_)
    · first | exact kp | exact Keep.refl _ _ | exact (Keep.refl _ _).alloc _
    clear kk hK; try clear kp
    intro kk
    refine flowe_take 13 (v := ?_) (a' := ?_) hps rfl (by kernel_rfl) rfl ?_ ?_ ?_
    rotate_left 2
    · intro w' hk; have hs := run_s w' (HB6.out.keep hk HN6.out); go_simp; try rfl
    · simp only [Act.put, List.setIfInBounds_toArray, List.set_cons_succ, List.set_cons_zero]; try rfl
    refine flowe_take 19 (v := ?_) (a' := ?_) hps rfl (by kernel_rfl) rfl ?_ ?_ ?_
    rotate_left 2
    · intro w' hk; go_simp; try rfl
    · simp only [Act.put, List.setIfInBounds_toArray, List.set_cons_succ, List.set_cons_zero]; try rfl
    refine flowe_take 20 (v := ?_) (a' := ?_) hps rfl (by kernel_rfl) rfl ?_ ?_ ?_
    rotate_left 2
    · intro w' hk; go_simp; try rfl
    · simp only [Act.put, List.setIfInBounds_toArray, List.set_cons_succ, List.set_cons_zero]; try rfl
    refine flowe_take 21 (v := ?_) (a' := ?_) hps rfl (by kernel_rfl) rfl ?_ ?_ ?_
    rotate_left 2
    · intro w' hk; go_simp; try rfl
    · simp only [Act.put, List.setIfInBounds_toArray, List.set_cons_succ, List.set_cons_zero]; try rfl
    refine flowe_take 22 (v := ?_) (a' := ?_) hps rfl (by kernel_rfl) rfl ?_ ?_ ?_
    rotate_left 2
    · intro w' hk; go_simp; try rfl
    · simp only [Act.put, List.setIfInBounds_toArray, List.set_cons_succ, List.set_cons_zero]; try rfl
    refine flowe_take 24 (v := ?_) (a' := ?_) hps rfl (by kernel_rfl) rfl ?_ ?_ ?_
    rotate_left 2
    · intro w' hk; go_simp; try rfl
    · simp only [Act.put, List.setIfInBounds_toArray, List.set_cons_succ, List.set_cons_zero]; try rfl
    refine flowe_take 25 (v := ?_) (a' := ?_) hps rfl (by kernel_rfl) rfl ?_ ?_ ?_
    rotate_left 2
    · intro w' hk; go_simp; try rfl
    · simp only [Act.put, List.setIfInBounds_toArray, List.set_cons_succ, List.set_cons_zero]; try rfl
    refine flowe_take 26 (v := ?_) (a' := ?_) hps rfl (by kernel_rfl) rfl ?_ ?_ ?_
    rotate_left 2
    · intro w' hk; go_simp; try rfl
    · simp only [Act.put, List.setIfInBounds_toArray, List.set_cons_succ, List.set_cons_zero]; try rfl
    refine flowe_take 27 (v := ?_) (a' := ?_) hps rfl (by kernel_rfl) rfl ?_ ?_ ?_
    rotate_left 2
    · intro w' hk; have hc := (HM6.out.row.keep hk (HSEP.out q (.inl rfl))).cell 0; simp only [List.getElem?_cons_zero] at hc; go_simp; try rfl
    · simp only [Act.put, List.setIfInBounds_toArray, List.set_cons_succ, List.set_cons_zero]; try rfl
    refine flowe_one 23 hps rfl (by kernel_rfl) rfl (wp_next (fun K hK => ?_))
    go_simp
    have kc := arena_Base w6 oq A vo HO6.out
    refine kc.mono ?_
    clear kc
    rintro e w' ⟨rfl, rfl⟩
    refine hK _ _ (flow_step kk ?_ ?_)
    · first | exact kp | exact Keep.refl _ _ | exact (Keep.refl _ _).alloc _
    clear kk hK; try clear kp
    intro kk
    refine flowe_take 28 (v := ?_) (a' := ?_) hps rfl (by kernel_rfl) rfl ?_ ?_ ?_
    rotate_left 2
    · intro w' hk; go_simp; try rfl
    · simp only [Act.put, List.setIfInBounds_toArray, List.set_cons_succ, List.set_cons_zero]; try rfl
    refine flowe_take 29 (v := ?_) (a' := ?_) hps rfl (by kernel_rfl) rfl ?_ ?_ ?_
    rotate_left 2
    · intro w' hk; go_simp; try rfl
    · simp only [Act.put, List.setIfInBounds_toArray, List.set_cons_succ, List.set_cons_zero]; try rfl
    refine flowe_take 30 (v := ?_) (a' := ?_) hps rfl (by kernel_rfl) rfl ?_ ?_ ?_
    rotate_left 2
    · intro w' hk; go_simp; try rfl
    · simp only [Act.put, List.setIfInBounds_toArray, List.set_cons_succ, List.set_cons_zero]; try rfl
    refine flowe_take 31 (v := ?_) (a' := ?_) hps rfl (by kernel_rfl) rfl ?_ ?_ ?_
    rotate_left 2
    · intro w' hk; go_simp; try rfl
    · simp only [Act.put, List.setIfInBounds_toArray, List.set_cons_succ, List.set_cons_zero]; try rfl
    refine flowe_take 33 (v := ?_) (a' := ?_) hps rfl (by kernel_rfl) rfl ?_ ?_ ?_
    rotate_left 2
    · intro w' hk; go_simp; try rfl
    · simp only [Act.put, List.setIfInBounds_toArray, List.set_cons_succ, List.set_cons_zero]; try rfl
    refine flowe_take 34 (v := ?_) (a' := ?_) hps rfl (by kernel_rfl) rfl ?_ ?_ ?_
    rotate_left 2
    · intro w' hk; go_simp; try rfl
    · simp only [Act.put, List.setIfInBounds_toArray, List.set_cons_succ, List.set_cons_zero]; try rfl
    refine flowe_take 35 (v := ?_) (a' := ?_) hps rfl (by kernel_rfl) rfl ?_ ?_ ?_
    rotate_left 2
    · intro w' hk; go_simp; try rfl
    · simp only [Act.put, List.setIfInBounds_toArray, List.set_cons_succ, List.set_cons_zero]; try rfl
    refine flowe_take 36 (v := ?_) (a' := ?_) hps rfl (by kernel_rfl) rfl ?_ ?_ ?_
    rotate_left 2
    · intro w' hk; have hc := (HM6.out.row.keep hk (HSEP.out q (.inl rfl))).cell 1; simp only [List.getElem?_cons_succ, List.getElem?_cons_zero] at hc; go_simp; try rfl
    · simp only [Act.put, List.setIfInBounds_toArray, List.set_cons_succ, List.set_cons_zero]; try rfl
    refine flowe_one 32 hps rfl (by kernel_rfl) rfl (wp_next (fun K hK => ?_))
    go_simp
    have kc := arena_Cap w6 oq A vo HO6.out
    refine kc.mono ?_
    clear kc
    rintro e w' ⟨rfl, rfl⟩
    refine hK _ _ (flow_step kk ?_ ?_)
    · first | exact kp | exact Keep.refl _ _ | exact (Keep.refl _ _).alloc _
    clear kk hK; try clear kp
    intro kk
    refine flowe_take 37 (v := ?_) (a' := ?_) hps rfl (by kernel_rfl) rfl ?_ ?_ ?_
    rotate_left 2
    · intro w' hk; go_simp; try rfl
    · simp only [Act.put, List.setIfInBounds_toArray, List.set_cons_succ, List.set_cons_zero]; try rfl
    refine flowe_take 38 (v := ?_) (a' := ?_) hps rfl (by kernel_rfl) rfl ?_ ?_ ?_
    rotate_left 2
    · intro w' hk; go_simp; try rfl
    · simp only [Act.put, List.setIfInBounds_toArray, List.set_cons_succ, List.set_cons_zero]; try rfl
    refine flowe_done hps (by kernel_rfl) ?_
    clear kk HO6 HM6 HB6 HN6 HM HAP HTO HSEP HMO VP5
    go_wp2
    go_loopw [20] (fun c wr => ∃ k : Nat, k ≤ M ∧ c = .int .i64 k ∧ St B w0 wr (ArT oq A :: RowO bx 58 [.int .i64 what, .int .u64 addr, .int .u64 fr, .int .u64 nn, .int .u64 v, .int .u8 (x.toNat : Nat), .slice ba b.length bc] :: ArT p { A with b := lay A.b 0 (List.replicate M 7) } :: RaT q { A with b := lay A.b 0 (List.replicate k 7) } :: r)) (fun c _ => M - (intOf c).toNat)
    case atStart => exact ⟨0, Nat.zero_le _, rfl, by rw [List.replicate_zero, lay_nil]; exact S6.out⟩
    case round =>
      obtain ⟨k, hk, rfl, hS⟩ := hrel
      have hll : (lay A.b 0 (List.replicate k (7 : UInt8))).length = A.b.length := lay_length _ _ _ (by rw [List.length_replicate]; omega)
      obtain ⟨vk, hvk, htk⟩ := hS.arTo (i := 3) rfl
      obtain ⟨ak, ck, rfl, _, _, _⟩ := hvk.form
      have q2 : wr.cell? ⟨q, 2, none⟩ = some (.slice ak A.b.length ck) := by rw [← hll]; exact hvk.row.cell 2
      by_cases hlt : k < M
      · obtain ⟨g, rfl⟩ := hvk.at_ k 1 (by show k + 1 ≤ (lay A.b 0 (List.replicate k (7 : UInt8))).length; omega) (by decide)
        obtain ⟨q1, q4, q5, q6⟩ := setByte (by decide) hvk k (by show k < (lay A.b 0 (List.replicate k (7 : UInt8))).length; omega) 7
        have hS2 := htk _ _ _ q5 (q6.mono fun _ _ e => by rw [e]; exact .inr rfl) (.inl rfl)
        have hrs := lay_rep_succ A.b 0 k 7 (by omega)
        rw [Nat.zero_add] at hrs
        simp only at hS2
        rw [hrs] at hS2
        have HS2 := Lib.hid hS2
        obtain ⟨u, qu⟩ : ∃ u, wr.cell? ⟨g, k, none⟩ = some u := ⟨_, q1⟩
        have hk9 : k < 9 := by omega
        have hkl : k < A.b.length := by omega
        have d9 : decide ((k : Int) < 9) = true := by rw [decide_eq_true_iff]; omega
        clear q1
        clear hS hvk htk hll q5 q6 hS2 hrs
        go_wp2
        exact ⟨⟨k + 1, by omega, by go_num, HS2.out⟩, by simp [intOf]; omega⟩
      · obtain rfl : k = M := by omega
        have HS := Lib.hid hS.tail.tail
        have hs := run_s wr (Bs.nil wr)
        have hMM := HMM.out
        clear hS hvk htk hll
        by_cases hkl : k < A.b.length
        · have d9 : decide ((k : Int) < 9) = false := by rw [decide_eq_false_iff_not]; omega
          clear hMM HMM
          go_wp2
          go_ret
          exact ⟨rfl, { A with b := lay A.b 0 (List.replicate k 7) }, rfl, HS.out⟩
        · clear hMM HMM
          go_wp2
          go_ret
          exact ⟨rfl, { A with b := lay A.b 0 (List.replicate k 7) }, rfl, HS.out⟩
  · have hN : 0 ≤ nn ∧ nn ≤ 18446744073709551615 := by omega
    go_wp2_with fail
    refine (law_Pick _ what 9 dw.1 dw.2 (by decide) (by decide)).mono ?_
    rintro e w' ⟨rfl, rfl⟩
    generalize what % 9 = m
    have hwr := wrapI64_rng nn
    generalize nn = N at *
    by_cases h0 : m = 0
    · subst h0
      go_wp2_with fail
      have kc := ar_Grow S3.out (i := 1) rfl (wrap64 N)
      with_reducible refine kc.mono ?_
      clear kc
      rintro e w4 ⟨rfl, s4⟩
      have S4 := Lib.hid s4
      clear s4
      have hc := Ar.grow_code A (wrap64 N)
      have HC := Lib.hid hc.2.2
      go_wp2_with fail
      have kc := code_errV w4 _ hc.1 hc.2.1
      with_reducible refine kc.mono ?_
      clear kc
      rintro e w' ⟨rfl, rfl⟩
      go_wp2_with fail
      have kc := rar_Grow S4.out (i := 2) rfl (wrap64 N) hwr.1 hwr.2
      with_reducible refine kc.mono ?_
      clear kc
      rintro e w5 ⟨rfl, s5⟩
      have hs := run_s w5 (Bs.nil w5)
      have HZ := Lib.hid s5.tail
      clear s5
      go_wp2
      go_ret
      exact ⟨rfl, (A.grow (wrap64 N)).2, HC.out, HZ.out⟩
    have e0 : (m == 0) = false := by rw [beq_eq_false_iff_ne]; exact h0
    clear h0
    by_cases h1 : m = 1
    · subst h1
      go_wp2_with fail
      have kc := ar_Widen S3.out (i := 1) rfl (wrap64 N)
      with_reducible refine kc.mono ?_
      clear kc
      rintro e w4 ⟨rfl, s4⟩
      have S4 := Lib.hid s4
      clear s4
      have hc := Ar.widen_code A (wrap64 N)
      have HC := Lib.hid hc.2.2
      go_wp2_with fail
      have kc := code_errV w4 _ hc.1 hc.2.1
      with_reducible refine kc.mono ?_
      clear kc
      rintro e w' ⟨rfl, rfl⟩
      go_wp2_with fail
      have kc := rar_Widen S4.out (i := 2) rfl (wrap64 N)
      with_reducible refine kc.mono ?_
      clear kc
      rintro e w5 ⟨rfl, s5⟩
      have hs := run_s w5 (Bs.nil w5)
      have HZ := Lib.hid s5.tail
      clear s5
      go_wp2
      go_ret
      exact ⟨rfl, (A.widen (wrap64 N)).2, HC.out, HZ.out⟩
    have e1 : (m == 1) = false := by rw [beq_eq_false_iff_ne]; exact h1
    clear h1
    by_cases h2 : m = 2
    · subst h2
      go_wp2_with fail
      have kc := ar_Load S3.out (i := 1) rfl ad N had.1 had.2 hN.1 hN.2
      with_reducible refine kc.mono ?_
      clear kc
      rintro e w4 ⟨v4, rfl, s4⟩
      obtain ⟨a4, c4, rfl, t4⟩ := s4.ownBs
      have S4 := Lib.hid t4
      clear s4 t4
      go_wp2_with fail
      have kc := rar_Load S4.out (i := 3) rfl ad N had.1 had.2 hN.1 hN.2
      with_reducible refine kc.mono ?_
      clear kc
      rintro e w5 ⟨v5, rfl, s5⟩
      obtain ⟨a5, c5, rfl, t5⟩ := s5.ownBs
      have hc := Ar.load_code A ad N
      have hs1 := run_s w5 (t5.bsO (i := 0) rfl)
      have hs2 := run_s w5 (t5.bsO (i := 1) rfl)
      have HZ := Lib.hid t5.tail.tail.tail
      clear s5 t5
      go_wp2_with fail
      have kc := code_errV w5 _ hc.1 hc.2
      with_reducible refine kc.mono ?_
      clear kc
      rintro e w' ⟨rfl, rfl⟩
      go_wp2
      go_ret
      exact ⟨rfl, A, rfl, HZ.out⟩
    have e2 : (m == 2) = false := by rw [beq_eq_false_iff_ne]; exact h2
    clear h2
    by_cases h3 : m = 3
    · subst h3
      have q6 := (S3.out.row (i := 0) rfl).cell 6
      simp only [List.getElem?_cons_succ, List.getElem?_cons_zero] at q6
      have DB3 := Lib.hid (S3.out.bs DB.out DBB.out)
      go_wp2_with fail
      have kc := ar_Store S3.out (i := 1) rfl ad had.1 had.2 _ _ _ b DB3.out
      with_reducible refine kc.mono ?_
      clear kc
      rintro e w4 ⟨rfl, s4⟩
      have q6' := (s4.row (i := 0) rfl).cell 6
      simp only [List.getElem?_cons_succ, List.getElem?_cons_zero] at q6'
      have DB4 := Lib.hid (s4.bs DB.out DBB.out)
      have S4 := Lib.hid s4
      clear s4
      have hc := Ar.store_code A ad b
      have HC := Lib.hid hc.2.2
      go_wp2_with fail
      have kc := code_errV w4 _ hc.1 hc.2.1
      with_reducible refine kc.mono ?_
      clear kc
      rintro e w' ⟨rfl, rfl⟩
      go_wp2_with fail
      have kc := rar_Store S4.out (i := 2) rfl ad had.1 had.2 _ _ _ b DB4.out (arg_apart S4.out (i := 2) rfl DBB.out)
      with_reducible refine kc.mono ?_
      clear kc
      rintro e w5 ⟨rfl, s5⟩
      have hs := run_s w5 (Bs.nil w5)
      have HZ := Lib.hid s5.tail
      clear s5
      go_wp2
      go_ret
      exact ⟨rfl, (A.store ad b).2, HC.out, HZ.out⟩
    have e3 : (m == 3) = false := by rw [beq_eq_false_iff_ne]; exact h3
    clear h3
    by_cases h4 : m = 4
    · subst h4
      go_wp2_with fail
      have kc := ar_Word S3.out (i := 1) rfl ad had.1 had.2
      with_reducible refine kc.mono ?_
      clear kc
      rintro e w' ⟨rfl, rfl⟩
      go_wp2_with fail
      have kc := rar_Word S3.out (i := 2) rfl ad had.1 had.2
      with_reducible refine kc.mono ?_
      clear kc
      rintro e w5 ⟨rfl, s5⟩
      have hc := Ar.word_code A ad
      have hs := run_s w5 (Bs.nil w5)
      have HZ := Lib.hid s5.tail
      clear s5
      go_wp2_with fail
      have kc := code_errV w5 _ hc.1 hc.2
      with_reducible refine kc.mono ?_
      clear kc
      rintro e w' ⟨rfl, rfl⟩
      go_wp2
      go_ret
      exact ⟨rfl, A, rfl, HZ.out⟩
    have e4 : (m == 4) = false := by rw [beq_eq_false_iff_ne]; exact h4
    clear h4
    by_cases h5 : m = 5
    · subst h5
      have q4 := (S3.out.row (i := 0) rfl).cell 4
      simp only [List.getElem?_cons_succ, List.getElem?_cons_zero] at q4
      go_wp2_with fail
      have kc := ar_SetWord S3.out (i := 1) rfl ad v had.1 had.2 dv.1 dv.2
      with_reducible refine kc.mono ?_
      clear kc
      rintro e w4 ⟨rfl, s4⟩
      have q4' := (s4.row (i := 0) rfl).cell 4
      simp only [List.getElem?_cons_succ, List.getElem?_cons_zero] at q4'
      have S4 := Lib.hid s4
      clear s4
      have hc := Ar.store_code A ad (low v.toNat 8)
      have HC := Lib.hid hc.2.2
      go_wp2_with fail
      have kc := code_errV w4 _ hc.1 hc.2.1
      with_reducible refine kc.mono ?_
      clear kc
      rintro e w' ⟨rfl, rfl⟩
      go_wp2_with fail
      have kc := law03_low w4 v dv.1 dv.2
      with_reducible refine kc.mono ?_
      clear kc
      rintro e w5 ⟨v5, rfl, o5, b5⟩
      have s5 := S4.out.addOwn b5 o5
      obtain ⟨a5, c5, rfl, t5⟩ := s5.ownBs
      have hb5 := t5.bsO (i := 0) rfl
      have S5 := Lib.hid t5; have HB5 := Lib.hid hb5
      clear o5 b5 s5 t5 hb5
      go_wp2_with fail
      have kc := rar_Store S5.out (i := 3) rfl ad had.1 had.2 _ _ _ _ HB5.out (own_apart S5.out (i := 2) rfl)
      with_reducible refine kc.mono ?_
      clear kc
      rintro e w6 ⟨rfl, s6⟩
      have hs := run_s w6 (Bs.nil w6)
      have HZ := Lib.hid s6.tail.tail
      clear s6
      go_wp2
      go_ret
      exact ⟨rfl, (A.store ad (low v.toNat 8)).2, HC.out, HZ.out⟩
    have e5 : (m == 5) = false := by rw [beq_eq_false_iff_ne]; exact h5
    clear h5
    by_cases h6 : m = 6
    · subst h6
      go_wp2_with fail
      have kc := ar_Copy S3.out (i := 1) rfl ad fa N had.1 had.2 hfa.1 hfa.2 hN.1 hN.2
      with_reducible refine kc.mono ?_
      clear kc
      rintro e w4 ⟨rfl, s4⟩
      have S4 := Lib.hid s4
      clear s4
      have hc := Ar.copy_code A ad fa N
      have HC := Lib.hid hc.2.2
      go_wp2_with fail
      have kc := code_errV w4 _ hc.1 hc.2.1
      with_reducible refine kc.mono ?_
      clear kc
      rintro e w' ⟨rfl, rfl⟩
      go_wp2_with fail
      have kc := rar_Copy S4.out (i := 2) rfl ad fa N had.1 had.2 hfa.1 hfa.2 hN.1 hN.2
      with_reducible refine kc.mono ?_
      clear kc
      rintro e w5 ⟨rfl, s5⟩
      have hs := run_s w5 (Bs.nil w5)
      have HZ := Lib.hid s5.tail
      clear s5
      go_wp2
      go_ret
      exact ⟨rfl, (A.copy ad fa N).2, HC.out, HZ.out⟩
    have e6 : (m == 6) = false := by rw [beq_eq_false_iff_ne]; exact h6
    clear h6
    by_cases h7 : m = 7
    · subst h7
      have q5 := (S3.out.row (i := 0) rfl).cell 5
      simp only [List.getElem?_cons_succ, List.getElem?_cons_zero] at q5
      go_wp2_with fail
      have kc := ar_Fill S3.out (i := 1) rfl ad N x had.1 had.2 hN.1 hN.2
      with_reducible refine kc.mono ?_
      clear kc
      rintro e w4 ⟨rfl, s4⟩
      have q5' := (s4.row (i := 0) rfl).cell 5
      simp only [List.getElem?_cons_succ, List.getElem?_cons_zero] at q5'
      have S4 := Lib.hid s4
      clear s4
      have hc := Ar.fill_code A ad N x
      have HC := Lib.hid hc.2.2
      go_wp2_with fail
      have kc := code_errV w4 _ hc.1 hc.2.1
      with_reducible refine kc.mono ?_
      clear kc
      rintro e w' ⟨rfl, rfl⟩
      go_wp2_with fail
      have kc := rar_Fill S4.out (i := 2) rfl ad N x had.1 had.2 hN.1 hN.2
      with_reducible refine kc.mono ?_
      clear kc
      rintro e w5 ⟨rfl, s5⟩
      have hs := run_s w5 (Bs.nil w5)
      have HZ := Lib.hid s5.tail
      clear s5
      go_wp2
      go_ret
      exact ⟨rfl, (A.fill ad N x).2, HC.out, HZ.out⟩
    have e7 : (m == 7) = false := by rw [beq_eq_false_iff_ne]; exact h7
    clear h7
    go_wp2_with fail
    have kc := ar_Clone S3.out (i := 1) rfl
    with_reducible refine kc.mono ?_
    clear kc
    rintro e w4 ⟨oq, rfl, s4⟩
    have S4 := Lib.hid s4.drew
    clear s4
    obtain ⟨vm, hm⟩ := S4.out.ar (i := 3) rfl
    obtain ⟨vp, hap, hto⟩ := S4.out.arTo (i := 2) rfl
    have hsep : ∀ x, arF q vm x → ¬ vp.ownBlock = some x := by
      obtain ⟨FP, FM, ⟨v1, g1, g2, _⟩, ⟨v2, g3, g4, _⟩, g5⟩ := S4.out.two (i := 2) (j := 3) rfl rfl (by decide)
      have e1 : v1 = vp := by have r1 := g1.row.cell 2; have r2 := hap.row.cell 2; rw [r1] at r2; simpa using r2
      have e2 : v2 = vm := by have r1 := g3.row.cell 2; have r2 := hm.row.cell 2; rw [r1] at r2; simpa using r2
      subst e1; subst e2
      exact fun x hx hp => g5 x (g2 x (.inr hp)) (g4 x hx)
    obtain ⟨am, cm, rfl, _, hmo, _⟩ := hm.form
    obtain ⟨M, hM⟩ : ∃ M : Nat, M = min A.b.length 9 := ⟨_, rfl⟩
    have hMl : M ≤ A.b.length := by omega
    have hM9 : M ≤ 9 := by omega
    have hmx : (if (A.b.length : Int) < 0 then 0 else (A.b.length : Int)) = (A.b.length : Int) := by rw [if_neg (by omega)]
    have hmn : (if 9 < (A.b.length : Int) then 9 else (A.b.length : Int)) = (M : Int) := by split <;> omega
    have hwu : IntKind.u64.wrap (M : Int) = (M : Int) := wrapU64 (by omega) (by omega)
    have HMM := Lib.hid hM
    have HM := Lib.hid hm; have HAP := Lib.hid hap; have HTO := Lib.hid hto; have HSEP := Lib.hid hsep; have HMO := Lib.hid hmo
    clear hm hap hto hsep hmo hM
    go_wp2
    refine flowe_begin (F := fun k => vp.ownBlock = some k) hmixed 39 rfl (by repeat (first | exact ps_body | refine ps_then ?_ | refine ps_block ?_)) (fun hps => ?_)
    simp only [List.replicate]
    have kk := (Keep.refl (fun k => vp.ownBlock = some k) (w4)).drew
    refine flowe_take 0 (v := ?_) (a' := ?_) hps rfl (by kernel_rfl) rfl ?_ ?_ ?_
    rotate_left 2
    · intro w' hk; go_simp; try rfl
    · simp only [Act.put, List.setIfInBounds_toArray, List.set_cons_succ, List.set_cons_zero]; try rfl
    refine flowe_take 1 (v := ?_) (a' := ?_) hps rfl (by kernel_rfl) rfl ?_ ?_ ?_
    rotate_left 2
    · intro w' hk; go_simp; try rfl
    · simp only [Act.put, List.setIfInBounds_toArray, List.set_cons_succ, List.set_cons_zero]; try rfl
    refine flowe_take 3 (v := ?_) (a' := ?_) hps rfl (by kernel_rfl) rfl ?_ ?_ ?_
    rotate_left 2
    · intro w' hk; go_simp; try rfl
    · simp only [Act.put, List.setIfInBounds_toArray, List.set_cons_succ, List.set_cons_zero]; try rfl
    refine flowe_one 2 hps rfl (by kernel_rfl) rfl (wp_next (fun K hK => ?_))
    go_simp
    have kc := arena_Base w4.drew p A vp HAP.out
    refine kc.mono ?_
    clear kc
    rintro e w' ⟨rfl, rfl⟩
    refine hK _ _ (flow_step kk ?_ ?_)
    · first | exact kp | exact Keep.refl _ _ | exact (Keep.refl _ _).alloc _
    clear kk hK; try clear kp
    intro kk
    refine flowe_one 4 hps rfl (by kernel_rfl) rfl (wp_next (fun K hK => ?_))
    go_simp
    have kc := arena_Len w4.drew p A vp HAP.out
    refine kc.mono ?_
    clear kc
    rintro e w' ⟨rfl, rfl⟩
    refine hK _ _ (flow_step kk ?_ ?_)
    · first | exact kp | exact Keep.refl _ _ | exact (Keep.refl _ _).alloc _
    clear kk hK; try clear kp
    intro kk
    refine flowe_take 5 (v := ?_) (a' := ?_) hps rfl (by kernel_rfl) rfl ?_ ?_ ?_
    rotate_left 2
    · intro w' hk; go_simp; try rfl
    · simp only [Act.put, List.setIfInBounds_toArray, List.set_cons_succ, List.set_cons_zero]; try rfl
    refine flowe_take 6 (v := ?_) (a' := ?_) hps rfl (by kernel_rfl) rfl ?_ ?_ ?_
    rotate_left 2
    · intro w' hk; go_simp; try rfl
    · simp only [Act.put, List.setIfInBounds_toArray, List.set_cons_succ, List.set_cons_zero]; try rfl
    refine flowe_take 7 (v := ?_) (a' := ?_) hps rfl (by kernel_rfl) rfl ?_ ?_ ?_
    rotate_left 2
    · intro w' hk; go_simp; try rfl
    · simp only [Act.put, List.setIfInBounds_toArray, List.set_cons_succ, List.set_cons_zero]; try rfl
    refine flowe_one 8 hps rfl (by kernel_rfl) rfl (wp_next (fun K hK => ?_))
    go_simp
    clear hmx hmn hwu
    have kc := arena_Fill_ok w4.drew p A vp HAP.out A.base 0 (by simp) M M rfl (by omega) 7
    refine kc.mono ?_
    clear kc
    rintro e w5 ⟨rfl, h2, k2⟩
    have kp := k2
    have HM5 := Lib.hid (HM.out.kept k2 HSEP.out)
    have S5 := Lib.hid (HTO.out w5 _ vp h2 (k2.mono fun _ _ h => .inr h) (.inl rfl))
    have VP5 := Lib.hid (fun g hg => (own_block_lt h2.own (g := g) hg).2)
    clear h2 k2
    refine hK _ _ (flow_step kk ?_ ?_)
    · first | exact kp | exact Keep.refl _ _ | exact (Keep.refl _ _).alloc _
    clear kk hK; try clear kp
    intro kk
    refine flowe_take 9 (v := ?_) (a' := ?_) hps rfl (by kernel_rfl) rfl ?_ ?_ ?_
    rotate_left 2
    · intro w' hk; go_simp; try rfl
    · simp only [Act.put, List.setIfInBounds_toArray, List.set_cons_succ, List.set_cons_zero]; try rfl
    refine flowe_take 10 (v := ?_) (a' := ?_) hps rfl (by kernel_rfl) rfl ?_ ?_ ?_
    rotate_left 2
    · intro w' hk; go_simp; try rfl
    · simp only [Act.put, List.setIfInBounds_toArray, List.set_cons_succ, List.set_cons_zero]; try rfl
    refine flowe_take 11 (v := ?_) (a' := ?_) hps rfl (by kernel_rfl) rfl ?_ ?_ ?_
    rotate_left 2
    · intro w' hk; go_simp; try rfl
    · simp only [Act.put, List.setIfInBounds_toArray, List.set_cons_succ, List.set_cons_zero]; try rfl
    refine flowe_take 14 (v := ?_) (a' := ?_) hps rfl (by kernel_rfl) rfl ?_ ?_ ?_
    rotate_left 2
    · intro w' hk; go_simp; try rfl
    · simp only [Act.put, List.setIfInBounds_toArray, List.set_cons_succ, List.set_cons_zero]; try rfl
    refine flowe_take 15 (v := ?_) (a' := ?_) hps rfl (by kernel_rfl) rfl ?_ ?_ ?_
    rotate_left 2
    · intro w' hk; go_simp; try rfl
    · simp only [Act.put, List.setIfInBounds_toArray, List.set_cons_succ, List.set_cons_zero]; try rfl
    refine flowe_take 16 (v := ?_) (a' := ?_) hps rfl (by kernel_rfl) rfl ?_ ?_ ?_
    rotate_left 2
    · intro w' hk; go_simp; try rfl
    · simp only [Act.put, List.setIfInBounds_toArray, List.set_cons_succ, List.set_cons_zero]; try rfl
    refine flowe_take 17 (v := ?_) (a' := ?_) hps rfl (by kernel_rfl) rfl ?_ ?_ ?_
    rotate_left 2
    · intro w' hk; have hc := (HM5.out.row.keep hk (HSEP.out q (.inl rfl))).cell 2; simp only [List.getElem?_cons_succ, List.getElem?_cons_zero] at hc; go_simp; try rfl
    · simp only [Act.put, List.setIfInBounds_toArray, List.set_cons_succ, List.set_cons_zero]; try rfl
    refine flowe_take 18 (v := ?_) (a' := ?_) hps rfl (by kernel_rfl) rfl ?_ ?_ ?_
    rotate_left 2
    · intro w' hk; have hs := run_s w' (show Bs w' am A.b.length cm A.b from by obtain ⟨a', c', e, hb, _, _⟩ := (HM5.out.kept hk HSEP.out).form; cases e; exact hb); go_simp; try rfl
    · simp only [Act.put, List.setIfInBounds_toArray, List.set_cons_succ, List.set_cons_zero]; try rfl
    refine flowe_one 12 hps rfl (by kernel_rfl) rfl (wp_next (fun K hK => ?_))
    go_simp
    obtain ⟨vo, ho⟩ := S5.out.ar (i := 0) rfl
    have kc := law_Bytes w5 oq A vo ho
    refine kc.mono ?_
    clear kc
    rintro e w6 ⟨v6, rfl, o6, b6⟩
    have kp := Keep.of_below (F := fun k => vp.ownBlock = some k) b6
    obtain ⟨a6, c6, rfl, hn6, hb6⟩ := Sl.of_owned o6
    have HO6 := Lib.hid (ho.below b6)
    have HM6 := Lib.hid (HM5.out.below b6)
    have S6 := Lib.hid (S5.out.below b6)
    have HB6 := Lib.hid (show Bs w6 a6 A.b.length c6 A.b from hb6)
    have HN6 := Lib.hid (show ∀ x, a6 = some x → ¬ vp.ownBlock = some x.block from fun x hx hv => by have h1 := hn6 x hx; have h2 := VP5.out _ hv; omega)
    clear o6 b6 hn6 hb6
    refine hK _ _ (flow_step kk ?_ ?_)
    · first | exact kp | exact Keep.refl _ _ | exact (Keep.refl _ _).alloc _
    clear kk hK; try clear kp
    intro kk
    refine flowe_take 13 (v := ?_) (a' := ?_) hps rfl (by kernel_rfl) rfl ?_ ?_ ?_
    rotate_left 2
    · intro w' hk; have hs := run_s w' (HB6.out.keep hk HN6.out); go_simp; try rfl
    · simp only [Act.put, List.setIfInBounds_toArray, List.set_cons_succ, List.set_cons_zero]; try rfl
    refine flowe_take 19 (v := ?_) (a' := ?_) hps rfl (by kernel_rfl) rfl ?_ ?_ ?_
    rotate_left 2
    · intro w' hk; go_simp; try rfl
    · simp only [Act.put, List.setIfInBounds_toArray, List.set_cons_succ, List.set_cons_zero]; try rfl
    refine flowe_take 20 (v := ?_) (a' := ?_) hps rfl (by kernel_rfl) rfl ?_ ?_ ?_
    rotate_left 2
    · intro w' hk; go_simp; try rfl
    · simp only [Act.put, List.setIfInBounds_toArray, List.set_cons_succ, List.set_cons_zero]; try rfl
    refine flowe_take 21 (v := ?_) (a' := ?_) hps rfl (by kernel_rfl) rfl ?_ ?_ ?_
    rotate_left 2
    · intro w' hk; go_simp; try rfl
    · simp only [Act.put, List.setIfInBounds_toArray, List.set_cons_succ, List.set_cons_zero]; try rfl
    refine flowe_take 22 (v := ?_) (a' := ?_) hps rfl (by kernel_rfl) rfl ?_ ?_ ?_
    rotate_left 2
    · intro w' hk; go_simp; try rfl
    · simp only [Act.put, List.setIfInBounds_toArray, List.set_cons_succ, List.set_cons_zero]; try rfl
    refine flowe_take 24 (v := ?_) (a' := ?_) hps rfl (by kernel_rfl) rfl ?_ ?_ ?_
    rotate_left 2
    · intro w' hk; go_simp; try rfl
    · simp only [Act.put, List.setIfInBounds_toArray, List.set_cons_succ, List.set_cons_zero]; try rfl
    refine flowe_take 25 (v := ?_) (a' := ?_) hps rfl (by kernel_rfl) rfl ?_ ?_ ?_
    rotate_left 2
    · intro w' hk; go_simp; try rfl
    · simp only [Act.put, List.setIfInBounds_toArray, List.set_cons_succ, List.set_cons_zero]; try rfl
    refine flowe_take 26 (v := ?_) (a' := ?_) hps rfl (by kernel_rfl) rfl ?_ ?_ ?_
    rotate_left 2
    · intro w' hk; go_simp; try rfl
    · simp only [Act.put, List.setIfInBounds_toArray, List.set_cons_succ, List.set_cons_zero]; try rfl
    refine flowe_take 27 (v := ?_) (a' := ?_) hps rfl (by kernel_rfl) rfl ?_ ?_ ?_
    rotate_left 2
    · intro w' hk; have hc := (HM6.out.row.keep hk (HSEP.out q (.inl rfl))).cell 0; simp only [List.getElem?_cons_zero] at hc; go_simp; try rfl
    · simp only [Act.put, List.setIfInBounds_toArray, List.set_cons_succ, List.set_cons_zero]; try rfl
    refine flowe_one 23 hps rfl (by kernel_rfl) rfl (wp_next (fun K hK => ?_))
    go_simp
    have kc := arena_Base w6 oq A vo HO6.out
    refine kc.mono ?_
    clear kc
    rintro e w' ⟨rfl, rfl⟩
    refine hK _ _ (flow_step kk ?_ ?_)
    · first | exact kp | exact Keep.refl _ _ | exact (Keep.refl _ _).alloc _
    clear kk hK; try clear kp
    intro kk
    refine flowe_take 28 (v := ?_) (a' := ?_) hps rfl (by kernel_rfl) rfl ?_ ?_ ?_
    rotate_left 2
    · intro w' hk; go_simp; try rfl
    · simp only [Act.put, List.setIfInBounds_toArray, List.set_cons_succ, List.set_cons_zero]; try rfl
    refine flowe_take 29 (v := ?_) (a' := ?_) hps rfl (by kernel_rfl) rfl ?_ ?_ ?_
    rotate_left 2
    · intro w' hk; go_simp; try rfl
    · simp only [Act.put, List.setIfInBounds_toArray, List.set_cons_succ, List.set_cons_zero]; try rfl
    refine flowe_take 30 (v := ?_) (a' := ?_) hps rfl (by kernel_rfl) rfl ?_ ?_ ?_
    rotate_left 2
    · intro w' hk; go_simp; try rfl
    · simp only [Act.put, List.setIfInBounds_toArray, List.set_cons_succ, List.set_cons_zero]; try rfl
    refine flowe_take 31 (v := ?_) (a' := ?_) hps rfl (by kernel_rfl) rfl ?_ ?_ ?_
    rotate_left 2
    · intro w' hk; go_simp; try rfl
    · simp only [Act.put, List.setIfInBounds_toArray, List.set_cons_succ, List.set_cons_zero]; try rfl
    refine flowe_take 33 (v := ?_) (a' := ?_) hps rfl (by kernel_rfl) rfl ?_ ?_ ?_
    rotate_left 2
    · intro w' hk; go_simp; try rfl
    · simp only [Act.put, List.setIfInBounds_toArray, List.set_cons_succ, List.set_cons_zero]; try rfl
    refine flowe_take 34 (v := ?_) (a' := ?_) hps rfl (by kernel_rfl) rfl ?_ ?_ ?_
    rotate_left 2
    · intro w' hk; go_simp; try rfl
    · simp only [Act.put, List.setIfInBounds_toArray, List.set_cons_succ, List.set_cons_zero]; try rfl
    refine flowe_take 35 (v := ?_) (a' := ?_) hps rfl (by kernel_rfl) rfl ?_ ?_ ?_
    rotate_left 2
    · intro w' hk; go_simp; try rfl
    · simp only [Act.put, List.setIfInBounds_toArray, List.set_cons_succ, List.set_cons_zero]; try rfl
    refine flowe_take 36 (v := ?_) (a' := ?_) hps rfl (by kernel_rfl) rfl ?_ ?_ ?_
    rotate_left 2
    · intro w' hk; have hc := (HM6.out.row.keep hk (HSEP.out q (.inl rfl))).cell 1; simp only [List.getElem?_cons_succ, List.getElem?_cons_zero] at hc; go_simp; try rfl
    · simp only [Act.put, List.setIfInBounds_toArray, List.set_cons_succ, List.set_cons_zero]; try rfl
    refine flowe_one 32 hps rfl (by kernel_rfl) rfl (wp_next (fun K hK => ?_))
    go_simp
    have kc := arena_Cap w6 oq A vo HO6.out
    refine kc.mono ?_
    clear kc
    rintro e w' ⟨rfl, rfl⟩
    refine hK _ _ (flow_step kk ?_ ?_)
    · first | exact kp | exact Keep.refl _ _ | exact (Keep.refl _ _).alloc _
    clear kk hK; try clear kp
    intro kk
    refine flowe_take 37 (v := ?_) (a' := ?_) hps rfl (by kernel_rfl) rfl ?_ ?_ ?_
    rotate_left 2
    · intro w' hk; go_simp; try rfl
    · simp only [Act.put, List.setIfInBounds_toArray, List.set_cons_succ, List.set_cons_zero]; try rfl
    refine flowe_take 38 (v := ?_) (a' := ?_) hps rfl (by kernel_rfl) rfl ?_ ?_ ?_
    rotate_left 2
    · intro w' hk; go_simp; try rfl
    · simp only [Act.put, List.setIfInBounds_toArray, List.set_cons_succ, List.set_cons_zero]; try rfl
    refine flowe_done hps (by kernel_rfl) ?_
    clear kk HO6 HM6 HB6 HN6 HM HAP HTO HSEP HMO VP5
    go_wp2
    go_loopw [20] (fun c wr => ∃ k : Nat, k ≤ M ∧ c = .int .i64 k ∧ St B w0 wr (ArT oq A :: RowO bx 58 [.int .i64 what, .int .u64 addr, .int .u64 fr, .int .u64 N, .int .u64 v, .int .u8 (x.toNat : Nat), .slice ba b.length bc] :: ArT p { A with b := lay A.b 0 (List.replicate M 7) } :: RaT q { A with b := lay A.b 0 (List.replicate k 7) } :: r)) (fun c _ => M - (intOf c).toNat)
    case atStart => exact ⟨0, Nat.zero_le _, rfl, by rw [List.replicate_zero, lay_nil]; exact S6.out⟩
    case round =>
      obtain ⟨k, hk, rfl, hS⟩ := hrel
      have hll : (lay A.b 0 (List.replicate k (7 : UInt8))).length = A.b.length := lay_length _ _ _ (by rw [List.length_replicate]; omega)
      obtain ⟨vk, hvk, htk⟩ := hS.arTo (i := 3) rfl
      obtain ⟨ak, ck, rfl, _, _, _⟩ := hvk.form
      have q2 : wr.cell? ⟨q, 2, none⟩ = some (.slice ak A.b.length ck) := by rw [← hll]; exact hvk.row.cell 2
      by_cases hlt : k < M
      · obtain ⟨g, rfl⟩ := hvk.at_ k 1 (by show k + 1 ≤ (lay A.b 0 (List.replicate k (7 : UInt8))).length; omega) (by decide)
        obtain ⟨q1, q4, q5, q6⟩ := setByte (by decide) hvk k (by show k < (lay A.b 0 (List.replicate k (7 : UInt8))).length; omega) 7
        have hS2 := htk _ _ _ q5 (q6.mono fun _ _ e => by rw [e]; exact .inr rfl) (.inl rfl)
        have hrs := lay_rep_succ A.b 0 k 7 (by omega)
        rw [Nat.zero_add] at hrs
        simp only at hS2
        rw [hrs] at hS2
        have HS2 := Lib.hid hS2
        obtain ⟨u, qu⟩ : ∃ u, wr.cell? ⟨g, k, none⟩ = some u := ⟨_, q1⟩
        have hk9 : k < 9 := by omega
        have hkl : k < A.b.length := by omega
        have d9 : decide ((k : Int) < 9) = true := by rw [decide_eq_true_iff]; omega
        clear q1
        clear hS hvk htk hll q5 q6 hS2 hrs
        go_wp2
        exact ⟨⟨k + 1, by omega, by go_num, HS2.out⟩, by simp [intOf]; omega⟩
      · obtain rfl : k = M := by omega
        have HS := Lib.hid hS.tail.tail
        have hs := run_s wr (Bs.nil wr)
        have hMM := HMM.out
        clear hS hvk htk hll
        by_cases hkl : k < A.b.length
        · have d9 : decide ((k : Int) < 9) = false := by rw [decide_eq_false_iff_not]; omega
          clear hMM HMM
          go_wp2
          go_ret
          exact ⟨rfl, { A with b := lay A.b 0 (List.replicate k 7) }, rfl, HS.out⟩
        · clear hMM HMM
          go_wp2
          go_ret
          exact ⟨rfl, { A with b := lay A.b 0 (List.replicate k 7) }, rfl, HS.out⟩
end Go.Proofs.Ytjijniillehfoaa
