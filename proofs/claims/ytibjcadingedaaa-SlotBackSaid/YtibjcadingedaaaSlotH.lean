import Derived.Test.YtibjcadingedaaaSlotG
namespace Go.Proofs.Ytibjcadingedaaa
open Go Go.RowKit Go.Own
set_option linter.unusedVariables false
theorem alloc_op {P : Program} {o : Oper} {a : Act} {w : World} {K : Act → World → Prop} {Q : Exit → Act → World → Prop} (t : TypeId) (ho : o.op = .alloc t)
    (z : Value) (s b : Nat) (hi : Info P t z s b) (cs : List Value) (hc : z.cells = cs.toArray)
    (h : K (a.put o.dst (.pointer (some ⟨w.heap.size, 0, none⟩))) (w.alloc (.cells cs.toArray t (0, 0)))) : o.wp P a w K Q := by
  obtain ⟨i, hi, hz, _, _⟩ := hi.parts
  unfold Oper.wp execOp
  simp only [ho]
  simp [run_alloc_row hi hz, hc, Result.andThen]
  exact h
theorem store_op {P : Program} {o : Oper} {a : Act} {w : World} {K : Act → World → Prop} {Q : Exit → Act → World → Prop} (t : TypeId) (x y : Operand) (ho : o.op = .store t x y)
    (g : Nat) (hx : a.eval x = .pointer (some ⟨g, 0, none⟩)) (cs : List Value) (hy : a.eval y = .agg cs.toArray) (e : TypeId) (old : List Value) (hg : Row w g e old) (hs : (P.info? t).map (·.size) = some cs.length) (hl : old.length = cs.length)
    (h1 : ∀ u ∈ cs, u.oneCell' = true) (h : ∀ w', Row w' g e cs → Keep (· = g) w w' → K (a.put o.dst undef) w') : o.wp P a w K Q := by
  cases hi : P.info? t with
  | none => rw [hi] at hs; cases hs
  | some i =>
    rw [hi] at hs
    simp only [Option.map_some, Option.some.injEq] at hs
    have hst := run_storeVar_row (P := P) w g e t old.toArray cs.toArray hg (by rw [hi]; simp [hs]) (by simpa using hl) (by simpa using h1)
    unfold Oper.wp execOp
    simp only [ho, hx, hy, Instr.storeAt, Instr.sureAddr]
    simp [Sem.run_bind, Result.andThen, hst]
    refine h _ ?_ ?_
    · exact setRow_heap w g old.toArray cs.toArray e (0, 0) hg
    · exact ⟨rfl, rfl, rfl, by simp, fun k _ hk => setRow_other w g k cs.toArray hk⟩
theorem isRec_len {l : List UInt8} (h : l.length ≠ 512) : isRec l = false := by
  unfold isRec
  refine decide_eq_false fun hh => h ?_
  have := recB_length _ _ (fld l 24 4) hh.1
  rw [hh.2] at this; exact this
theorem fld_lt (l : List UInt8) (i n : Nat) : fld l i n < 256 ^ n := by
  unfold fld
  have h1 := num_lt ((l.drop i).take n)
  have h2 := Nat.pow_le_pow_right (n := 256) (by decide) (List.length_take_le n (l.drop i))
  omega
theorem info_rrec : Info Try.prog 66 (.agg #[.int .u64 0, .int .u64 0, .int .u32 0]) 3 24 := by unfold Info; kernel_rfl
theorem size_rrec : (Try.prog.info? 66).map (·.size) = some 3 := by kernel_rfl
set_option maxHeartbeats 8000000 in
theorem ref_GetRec (w : World) (a : Option Addr) (n c : Nat) (l : List UInt8) (h : Bs w a n c l) :
    Calls Try.prog 46 #[.slice a n c] w fun e w' => e = .returned (recV l) ∧ Below w.heap.size w w' := by
  have hn := h.len
  have hr0 : Row (w.alloc (.cells #[.int .u64 0, .int .u64 0, .int .u32 0] 66 (0, 0))) w.heap.size 66 [.int .u64 0, .int .u64 0, .int .u32 0] := Row.made _ _ _
  have hb0 : Below w.heap.size w (w.alloc (.cells #[.int .u64 0, .int .u64 0, .int .u32 0] 66 (0, 0))) := (Below.refl _ _).alloc (Nat.le_refl _) _
  by_cases hl : l.length = 512
  · rw [hl] at hn
    subst hn
    have hc := Sl.cap h
    obtain ⟨b, o, rfl, hlt⟩ := Sl.some h (by decide) (by decide)
    have hB := h.below hb0
    have hsz : (w.alloc (.cells #[.int .u64 0, .int .u64 0, .int .u32 0] 66 (0, 0))).heap.size = w.heap.size + 1 := by simp
    obtain ⟨x1, e1, l1, s1⟩ : ∃ x, fld l 8 8 = num x ∧ x.length ≤ 8 ∧ Bs (w.alloc (.cells #[.int .u64 0, .int .u64 0, .int .u32 0] 66 (0, 0))) (some ⟨b, o + 8, none⟩) 8 (c - 8) x :=
      ⟨_, by unfold fld; rw [show (l.drop 8).take 8 = (l.take 16).drop 8 by rw [List.drop_take]], by simp; omega, hB.cut 8 16 (by decide) (by decide)⟩
    obtain ⟨x2, e2, l2, s2⟩ : ∃ x, fld l 16 8 = num x ∧ x.length ≤ 8 ∧ Bs (w.alloc (.cells #[.int .u64 0, .int .u64 0, .int .u32 0] 66 (0, 0))) (some ⟨b, o + 16, none⟩) 8 (c - 16) x :=
      ⟨_, by unfold fld; rw [show (l.drop 16).take 8 = (l.take 24).drop 16 by rw [List.drop_take]], by simp; omega, hB.cut 16 24 (by decide) (by decide)⟩
    obtain ⟨x3, e3, l3, s3⟩ : ∃ x, fld l 24 4 = num x ∧ x.length ≤ 8 ∧ Bs (w.alloc (.cells #[.int .u64 0, .int .u64 0, .int .u32 0] 66 (0, 0))) (some ⟨b, o + 24, none⟩) 4 (c - 24) x :=
      ⟨_, by unfold fld; rw [show (l.drop 24).take 4 = (l.take 28).drop 24 by rw [List.drop_take]], by simp; omega, hB.cut 24 28 (by decide) (by decide)⟩
    have g1 := fld_lt l 8 8; have g2 := fld_lt l 16 8; have g3 := fld_lt l 24 4
    have hrec : isRec l = decide (recOk (fld l 8 8) (fld l 16 8) = true ∧ recB (fld l 8 8) (fld l 16 8) (fld l 24 4) = l) := rfl
    have hsome := fun h => recV_some (l := l) (G := fld l 8 8) (S := fld l 16 8) (M := fld l 24 4) h ⟨rfl, rfl, rfl⟩
    rw [e1, e2, e3] at hrec hsome
    rw [e1] at g1; rw [e2] at g2; rw [e3] at g3
    replace g1 : num x1 < 18446744073709551616 := g1
    replace g2 : num x2 < 18446744073709551616 := g2
    replace g3 : num x3 < 4294967296 := g3
    have hS1 := Lib.hid s1; have hS2 := Lib.hid s2; have hS3 := Lib.hid s3
    have HB := Lib.hid hB; have HR := Lib.hid hr0; have H0 := Lib.hid hb0
    have HREC := Lib.hid hrec; have HSOME := Lib.hid hsome
    have c1 := fun (w : World) (h : Bs w (some ⟨b, o + 8, none⟩) 8 (c - 8) x1) => ref_Num w _ 8 (c - 8) x1 h l1
    have c2 := fun (w : World) (h : Bs w (some ⟨b, o + 16, none⟩) 8 (c - 16) x2) => ref_Num w _ 8 (c - 16) x2 h l2
    have c3 := fun (w : World) (h : Bs w (some ⟨b, o + 24, none⟩) 4 (c - 24) x3) => ref_Num w _ 4 (c - 24) x3 h l3
    generalize num x1 = G at *
    generalize num x2 = S at *
    generalize num x3 = M at *
    have C1 := Lib.hid c1; have C2 := Lib.hid c2; have C3 := Lib.hid c3
    clear s1 s2 s3 hB h hr0 hb0 e1 e2 e3 l1 l2 l3 hrec hsome c1 c2 c3
    have hw3 : IntKind.u32.wrap (M : Int) = M := wrapU32 (by omega) (by omega)
    have m8 : (8 : Int) ≤ c := by omega
    have m16 : (16 : Int) ≤ c := by omega
    have m24 : (24 : Int) ≤ c := by omega
    have m28 : (28 : Int) ≤ c := by omega
    have n8 : ¬ c = 8 := by omega
    have n16 : ¬ c = 16 := by omega
    have n24 : ¬ c = 24 := by omega
    go_enter Try.func46, Try.ntmps46
    go_wp2_with (first
      | (refine alloc_row rfl 66 rfl _ _ _ info_rrec [.int .u64 0, .int .u64 0, .int .u32 0] rfl ?_))
    generalize w.alloc (.cells #[.int .u64 0, .int .u64 0, .int .u32 0] 66 (0, 0)) = W0 at *
    have hbb : ∀ (i : Nat) (p : Addr), some (⟨b, i, none⟩ : Addr) = some p → p.block < w.heap.size + 1 := by
      intro i p hp; cases hp; show b < _; omega
    have hd : W0.drew.heap.size = w.heap.size + 1 := hsz
    have hrow := Row.made W0.drew 66 [.int .u64 0, .int .u64 0, .int .u32 0]
    rw [hd] at hrow
    have HROW := Lib.hid hrow
    clear hrow
    refine flowe_begin (F := fun k => w.heap.size + 1 ≤ k) hmixed 13 rfl (by repeat (first | exact ps_body | refine ps_then ?_ | refine ps_block ?_)) (fun hps => ?_)
    simp only [List.replicate]
    have kk := (Keep.refl (fun k => w.heap.size + 1 ≤ k) (W0)).drew
    refine flowe_take 0 (v := ?_) (a' := ?_) hps rfl (by kernel_rfl) rfl ?_ ?_ ?_
    rotate_left 2
    · intro w' hk; go_simp; try rfl
    · simp only [Act.put, List.setIfInBounds_toArray, List.set_cons_succ, List.set_cons_zero]; try rfl
    refine flowe_take 1 (v := ?_) (a' := ?_) hps rfl (by kernel_rfl) rfl ?_ ?_ ?_
    rotate_left 2
    · intro w' hk; go_simp; try rfl
    · simp only [Act.put, List.setIfInBounds_toArray, List.set_cons_succ, List.set_cons_zero]; try rfl
    refine flowe_take 3 (v := ?_) (a' := ?_) hps rfl (by kernel_rfl) rfl ?_ ?_ ?_
    rotate_left 2
    · intro w' hk; go_simp; try rfl
    · simp only [Act.put, List.setIfInBounds_toArray, List.set_cons_succ, List.set_cons_zero]; try rfl
    refine flowe_take 4 (v := ?_) (a' := ?_) hps rfl (by kernel_rfl) rfl ?_ ?_ ?_
    rotate_left 2
    · intro w' hk; go_simp; try rfl
    · simp only [Act.put, List.setIfInBounds_toArray, List.set_cons_succ, List.set_cons_zero]; try rfl
    refine flowe_take 6 (v := ?_) (a' := ?_) hps rfl (by kernel_rfl) rfl ?_ ?_ ?_
    rotate_left 2
    · intro w' hk; go_simp; try rfl
    · simp only [Act.put, List.setIfInBounds_toArray, List.set_cons_succ, List.set_cons_zero]; try rfl
    refine flowe_take 7 (v := ?_) (a' := ?_) hps rfl (by kernel_rfl) rfl ?_ ?_ ?_
    rotate_left 2
    · intro w' hk; go_simp; try rfl
    · simp only [Act.put, List.setIfInBounds_toArray, List.set_cons_succ, List.set_cons_zero]; try rfl
    refine flowe_any [2, 11] hps (by kernel_rfl) (by simp) (fun i hi => ?_)
    simp only [List.mem_cons, List.not_mem_nil, or_false] at hi
    rcases hi with rfl | rfl
    focus
      refine ⟨_, rfl, rfl, wp_next (fun K hK => ?_)⟩
      go_simp
      go_at_call 51
      refine (C1.out _ (hS1.out.keepB kk (hbb _))).mono ?_
      rintro e w' ⟨rfl, rfl⟩
      refine hK _ _ (flow_step kk ?_ ?_)
      · first | exact kp | exact Keep.refl _ _ | exact (Keep.refl _ _).alloc _
      clear kk hK; try clear kp
      intro kk
      refine flowe_any [5, 11] hps (by kernel_rfl) (by simp) (fun i hi => ?_)
      simp only [List.mem_cons, List.not_mem_nil, or_false] at hi
      rcases hi with rfl | rfl
      focus
        refine ⟨_, rfl, rfl, wp_next (fun K hK => ?_)⟩
        go_simp
        go_at_call 51
        refine (C2.out _ (hS2.out.keepB kk (hbb _))).mono ?_
        rintro e w' ⟨rfl, rfl⟩
        refine hK _ _ (flow_step kk ?_ ?_)
        · first | exact kp | exact Keep.refl _ _ | exact (Keep.refl _ _).alloc _
        clear kk hK; try clear kp
        intro kk
        refine flowe_any [8, 11] hps (by kernel_rfl) (by simp) (fun i hi => ?_)
        simp only [List.mem_cons, List.not_mem_nil, or_false] at hi
        rcases hi with rfl | rfl
        focus
          refine ⟨_, rfl, rfl, wp_next (fun K hK => ?_)⟩
          go_simp
          go_at_call 51
          refine (C3.out _ (hS3.out.keepB kk (hbb _))).mono ?_
          rintro e w' ⟨rfl, rfl⟩
          refine hK _ _ (flow_step kk ?_ ?_)
          · first | exact kp | exact Keep.refl _ _ | exact (Keep.refl _ _).alloc _
          clear kk hK; try clear kp
          intro kk
          refine flowe_take 9 (v := ?_) (a' := ?_) hps rfl (by kernel_rfl) rfl ?_ ?_ ?_
          rotate_left 2
          · intro w' hk; go_simp; try rfl
          · simp only [Act.put, List.setIfInBounds_toArray, List.set_cons_succ, List.set_cons_zero]; try rfl
          refine flowe_take 10 (v := ?_) (a' := ?_) hps rfl (by kernel_rfl) rfl ?_ ?_ ?_
          rotate_left 2
          · intro w' hk; go_simp; try rfl
          · simp only [Act.put, List.setIfInBounds_toArray, List.set_cons_succ, List.set_cons_zero]; try rfl
          refine flowe_one 11 hps rfl (by kernel_rfl) rfl (wp_next (fun K hK => ?_))
          refine alloc_op 66 rfl _ _ _ info_rrec [.int .u64 0, .int .u64 0, .int .u32 0] rfl ?_
          rw [hd]
          simp only [Act.put, List.setIfInBounds_toArray, List.set_cons_succ, List.set_cons_zero]
          refine hK _ _ (flow_step kk ?_ ?_)
          · first | exact kp | exact Keep.refl _ _ | exact (Keep.refl _ _).alloc _
          clear kk hK; try clear kp
          intro kk
          refine flowe_one 12 hps rfl (by kernel_rfl) rfl (wp_next (fun K hK => ?_))
          refine store_op 66 _ _ rfl (w.heap.size + 1) rfl [.int .u64 G, .int .u64 S, .int .u32 M] rfl _ [.int .u64 0, .int .u64 0, .int .u32 0] HROW.out size_rrec rfl (by simp [Value.oneCell']) ?_
          intro w1 hr1 hk1
          have kp := hk1.mono (G := fun k => w.heap.size + 1 ≤ k) (fun k _ hk => Nat.le_of_eq hk.symm)
          simp only [Act.put, List.setIfInBounds_toArray, List.set_cons_succ, List.set_cons_zero]
          refine hK _ _ (flow_step kk ?_ ?_)
          · first | exact kp | exact Keep.refl _ _ | exact (Keep.refl _ _).alloc _
          clear kk hK; try clear kp
          intro kk
          refine flowe_done hps (by kernel_rfl) ?_
        all_goals skip
        rotate_left 1
        focus
          refine ⟨_, rfl, rfl, wp_next (fun K hK => ?_)⟩
          refine alloc_op 66 rfl _ _ _ info_rrec [.int .u64 0, .int .u64 0, .int .u32 0] rfl ?_
          rw [hd]
          simp only [Act.put, List.setIfInBounds_toArray, List.set_cons_succ, List.set_cons_zero]
          refine hK _ _ (flow_step kk ?_ ?_)
          · first | exact kp | exact Keep.refl _ _ | exact (Keep.refl _ _).alloc _
          clear kk hK; try clear kp
          intro kk
          refine flowe_one 8 hps rfl (by kernel_rfl) rfl (wp_next (fun K hK => ?_))
          go_simp
          go_at_call 51
          refine (C3.out _ (hS3.out.keepB kk (hbb _))).mono ?_
          rintro e w' ⟨rfl, rfl⟩
          refine hK _ _ (flow_step kk ?_ ?_)
          · first | exact kp | exact Keep.refl _ _ | exact (Keep.refl _ _).alloc _
          clear kk hK; try clear kp
          intro kk
          refine flowe_take 9 (v := ?_) (a' := ?_) hps rfl (by kernel_rfl) rfl ?_ ?_ ?_
          rotate_left 2
          · intro w' hk; go_simp; try rfl
          · simp only [Act.put, List.setIfInBounds_toArray, List.set_cons_succ, List.set_cons_zero]; try rfl
          refine flowe_take 10 (v := ?_) (a' := ?_) hps rfl (by kernel_rfl) rfl ?_ ?_ ?_
          rotate_left 2
          · intro w' hk; go_simp; try rfl
          · simp only [Act.put, List.setIfInBounds_toArray, List.set_cons_succ, List.set_cons_zero]; try rfl
          refine flowe_one 12 hps rfl (by kernel_rfl) rfl (wp_next (fun K hK => ?_))
          refine store_op 66 _ _ rfl (w.heap.size + 1) rfl [.int .u64 G, .int .u64 S, .int .u32 M] rfl _ [.int .u64 0, .int .u64 0, .int .u32 0] HROW.out size_rrec rfl (by simp [Value.oneCell']) ?_
          intro w1 hr1 hk1
          have kp := hk1.mono (G := fun k => w.heap.size + 1 ≤ k) (fun k _ hk => Nat.le_of_eq hk.symm)
          simp only [Act.put, List.setIfInBounds_toArray, List.set_cons_succ, List.set_cons_zero]
          refine hK _ _ (flow_step kk ?_ ?_)
          · first | exact kp | exact Keep.refl _ _ | exact (Keep.refl _ _).alloc _
          clear kk hK; try clear kp
          intro kk
          refine flowe_done hps (by kernel_rfl) ?_
        all_goals skip
        rotate_left 1
      all_goals skip
      rotate_left 2
      focus
        refine ⟨_, rfl, rfl, wp_next (fun K hK => ?_)⟩
        refine alloc_op 66 rfl _ _ _ info_rrec [.int .u64 0, .int .u64 0, .int .u32 0] rfl ?_
        rw [hd]
        simp only [Act.put, List.setIfInBounds_toArray, List.set_cons_succ, List.set_cons_zero]
        refine hK _ _ (flow_step kk ?_ ?_)
        · first | exact kp | exact Keep.refl _ _ | exact (Keep.refl _ _).alloc _
        clear kk hK; try clear kp
        intro kk
        refine flowe_one 5 hps rfl (by kernel_rfl) rfl (wp_next (fun K hK => ?_))
        go_simp
        go_at_call 51
        refine (C2.out _ (hS2.out.keepB kk (hbb _))).mono ?_
        rintro e w' ⟨rfl, rfl⟩
        refine hK _ _ (flow_step kk ?_ ?_)
        · first | exact kp | exact Keep.refl _ _ | exact (Keep.refl _ _).alloc _
        clear kk hK; try clear kp
        intro kk
        refine flowe_one 8 hps rfl (by kernel_rfl) rfl (wp_next (fun K hK => ?_))
        go_simp
        go_at_call 51
        refine (C3.out _ (hS3.out.keepB kk (hbb _))).mono ?_
        rintro e w' ⟨rfl, rfl⟩
        refine hK _ _ (flow_step kk ?_ ?_)
        · first | exact kp | exact Keep.refl _ _ | exact (Keep.refl _ _).alloc _
        clear kk hK; try clear kp
        intro kk
        refine flowe_take 9 (v := ?_) (a' := ?_) hps rfl (by kernel_rfl) rfl ?_ ?_ ?_
        rotate_left 2
        · intro w' hk; go_simp; try rfl
        · simp only [Act.put, List.setIfInBounds_toArray, List.set_cons_succ, List.set_cons_zero]; try rfl
        refine flowe_take 10 (v := ?_) (a' := ?_) hps rfl (by kernel_rfl) rfl ?_ ?_ ?_
        rotate_left 2
        · intro w' hk; go_simp; try rfl
        · simp only [Act.put, List.setIfInBounds_toArray, List.set_cons_succ, List.set_cons_zero]; try rfl
        refine flowe_one 12 hps rfl (by kernel_rfl) rfl (wp_next (fun K hK => ?_))
        refine store_op 66 _ _ rfl (w.heap.size + 1) rfl [.int .u64 G, .int .u64 S, .int .u32 M] rfl _ [.int .u64 0, .int .u64 0, .int .u32 0] HROW.out size_rrec rfl (by simp [Value.oneCell']) ?_
        intro w1 hr1 hk1
        have kp := hk1.mono (G := fun k => w.heap.size + 1 ≤ k) (fun k _ hk => Nat.le_of_eq hk.symm)
        simp only [Act.put, List.setIfInBounds_toArray, List.set_cons_succ, List.set_cons_zero]
        refine hK _ _ (flow_step kk ?_ ?_)
        · first | exact kp | exact Keep.refl _ _ | exact (Keep.refl _ _).alloc _
        clear kk hK; try clear kp
        intro kk
        refine flowe_done hps (by kernel_rfl) ?_
      all_goals skip
      rotate_left 1
    all_goals skip
    rotate_left 3
    focus
      refine ⟨_, rfl, rfl, wp_next (fun K hK => ?_)⟩
      refine alloc_op 66 rfl _ _ _ info_rrec [.int .u64 0, .int .u64 0, .int .u32 0] rfl ?_
      rw [hd]
      simp only [Act.put, List.setIfInBounds_toArray, List.set_cons_succ, List.set_cons_zero]
      refine hK _ _ (flow_step kk ?_ ?_)
      · first | exact kp | exact Keep.refl _ _ | exact (Keep.refl _ _).alloc _
      clear kk hK; try clear kp
      intro kk
      refine flowe_one 2 hps rfl (by kernel_rfl) rfl (wp_next (fun K hK => ?_))
      go_simp
      go_at_call 51
      refine (C1.out _ (hS1.out.keepB kk (hbb _))).mono ?_
      rintro e w' ⟨rfl, rfl⟩
      refine hK _ _ (flow_step kk ?_ ?_)
      · first | exact kp | exact Keep.refl _ _ | exact (Keep.refl _ _).alloc _
      clear kk hK; try clear kp
      intro kk
      refine flowe_one 5 hps rfl (by kernel_rfl) rfl (wp_next (fun K hK => ?_))
      go_simp
      go_at_call 51
      refine (C2.out _ (hS2.out.keepB kk (hbb _))).mono ?_
      rintro e w' ⟨rfl, rfl⟩
      refine hK _ _ (flow_step kk ?_ ?_)
      · first | exact kp | exact Keep.refl _ _ | exact (Keep.refl _ _).alloc _
      clear kk hK; try clear kp
      intro kk
      refine flowe_one 8 hps rfl (by kernel_rfl) rfl (wp_next (fun K hK => ?_))
      go_simp
      go_at_call 51
      refine (C3.out _ (hS3.out.keepB kk (hbb _))).mono ?_
      rintro e w' ⟨rfl, rfl⟩
      refine hK _ _ (flow_step kk ?_ ?_)
      · first | exact kp | exact Keep.refl _ _ | exact (Keep.refl _ _).alloc _
      clear kk hK; try clear kp
      intro kk
      refine flowe_take 9 (v := ?_) (a' := ?_) hps rfl (by kernel_rfl) rfl ?_ ?_ ?_
      rotate_left 2
      · intro w' hk; go_simp; try rfl
      · simp only [Act.put, List.setIfInBounds_toArray, List.set_cons_succ, List.set_cons_zero]; try rfl
      refine flowe_take 10 (v := ?_) (a' := ?_) hps rfl (by kernel_rfl) rfl ?_ ?_ ?_
      rotate_left 2
      · intro w' hk; go_simp; try rfl
      · simp only [Act.put, List.setIfInBounds_toArray, List.set_cons_succ, List.set_cons_zero]; try rfl
      refine flowe_one 12 hps rfl (by kernel_rfl) rfl (wp_next (fun K hK => ?_))
      refine store_op 66 _ _ rfl (w.heap.size + 1) rfl [.int .u64 G, .int .u64 S, .int .u32 M] rfl _ [.int .u64 0, .int .u64 0, .int .u32 0] HROW.out size_rrec rfl (by simp [Value.oneCell']) ?_
      intro w1 hr1 hk1
      have kp := hk1.mono (G := fun k => w.heap.size + 1 ≤ k) (fun k _ hk => Nat.le_of_eq hk.symm)
      simp only [Act.put, List.setIfInBounds_toArray, List.set_cons_succ, List.set_cons_zero]
      refine hK _ _ (flow_step kk ?_ ?_)
      · first | exact kp | exact Keep.refl _ _ | exact (Keep.refl _ _).alloc _
      clear kk hK; try clear kp
      intro kk
      refine flowe_done hps (by kernel_rfl) ?_
    all_goals skip
    rotate_left 1
    all_goals
      have k0 : w1.cell? ⟨w.heap.size + 1, 0, none⟩ = some (.int .u64 G) := hr1.cell 0
      have k1 : w1.cell? ⟨w.heap.size + 1, 1, none⟩ = some (.int .u64 S) := hr1.cell 1
      have k2 : w1.cell? ⟨w.heap.size + 1, 2, none⟩ = some (.int .u32 M) := hr1.cell 2
      have b01 := kk.below (B := w.heap.size + 1) (by omega) (fun k hk hf => by have hf : w.heap.size + 1 ≤ k := hf; omega)
      have b1 : Below w.heap.size w w1 := H0.out.trans (b01.mono (by omega))
      have hr0 := HR.out.under b01 (by omega)
      have hB1 := HB.out.under b01 (hbb _)
      have hsz1 := b01.size
      clear HR HB H0 kk b01 HROW hS1 hS2 hS3 C1 C2 C3
      go_wp2_with fail
      have hr1d := hr1.drew
      have hB1d := hB1.drew
      refine flowe_begin (F := fun _ => False) hmixed 6 rfl (by repeat (first | exact ps_body | refine ps_then ?_ | refine ps_block ?_)) (fun hps => ?_)
      simp only [List.replicate]
      have kk := (Keep.refl (fun _ => False) (w1)).drew
      refine flowe_take 0 (v := ?_) (a' := ?_) hps rfl (by kernel_rfl) rfl ?_ ?_ ?_
      rotate_left 2
      · intro w' hk; have hr := hr1d.keep hk (fun h => h); have q0 : w'.cell? ⟨w.heap.size + 1, 0, none⟩ = some (.int .u64 G) := hr.cell 0; have q1 : w'.cell? ⟨w.heap.size + 1, 1, none⟩ = some (.int .u64 S) := hr.cell 1; have q2 : w'.cell? ⟨w.heap.size + 1, 2, none⟩ = some (.int .u32 M) := hr.cell 2; go_simp; try rfl
      · simp only [Act.put, List.setIfInBounds_toArray, List.set_cons_succ, List.set_cons_zero]; try rfl
      refine flowe_take 3 (v := ?_) (a' := ?_) hps rfl (by kernel_rfl) rfl ?_ ?_ ?_
      rotate_left 2
      · intro w' hk; go_simp; try rfl
      · simp only [Act.put, List.setIfInBounds_toArray, List.set_cons_succ, List.set_cons_zero]; try rfl
      refine flowe_take 4 (v := ?_) (a' := ?_) hps rfl (by kernel_rfl) rfl ?_ ?_ ?_
      rotate_left 2
      · intro w' hk; first | (have hs := run_s w' (hB3.keep hk (fun _ _ h => h)); go_simp; rfl) | (have hs := run_s w' (hB1d.keep hk (fun _ _ h => h)); go_simp; rfl)
      · simp only [Act.put, List.setIfInBounds_toArray, List.set_cons_succ, List.set_cons_zero]; try rfl
      refine flowe_one 1 hps rfl (by kernel_rfl) rfl (wp_next (fun K hK => ?_))
      go_simp
      go_at_call 48
      refine (ref_PutRec _ G S M g1 g2 g3).mono ?_
      rintro e w2 ⟨a2, n2, c2, rfl, hB2, hn2, hb2⟩
      have hB3 := hB1d.below hb2
      have kp := Keep.of_below (F := fun _ => False) hb2
      refine hK _ _ (flow_step kk ?_ ?_)
      · first | exact kp | exact Keep.refl _ _ | exact (Keep.refl _ _).alloc _
      clear kk hK; try clear kp
      intro kk
      refine flowe_take 2 (v := ?_) (a' := ?_) hps rfl (by kernel_rfl) rfl ?_ ?_ ?_
      rotate_left 2
      · intro w' hk; have hs := run_s w' (hB2.keep hk (fun _ _ h => h)); go_simp; try rfl
      · simp only [Act.put, List.setIfInBounds_toArray, List.set_cons_succ, List.set_cons_zero]; try rfl
      refine flowe_take 5 (v := ?_) (a' := ?_) hps rfl (by kernel_rfl) rfl ?_ ?_ ?_
      rotate_left 2
      · intro w' hk; go_simp; try rfl
      · simp only [Act.put, List.setIfInBounds_toArray, List.set_cons_succ, List.set_cons_zero]; try rfl
      refine flowe_done hps (by kernel_rfl) ?_
      have b2 := b1.trans (kk.below (B := w.heap.size) b1.size (fun _ _ h => h))
      have hr2 := hr0.keep kk (fun h => h)
      have hr12 := hr1.keep kk (fun h => h)
      have q0 : w2.cell? ⟨w.heap.size + 1, 0, none⟩ = some (.int .u64 G) := hr12.cell 0
      have q1 : w2.cell? ⟨w.heap.size + 1, 1, none⟩ = some (.int .u64 S) := hr12.cell 1
      have q2 : w2.cell? ⟨w.heap.size + 1, 2, none⟩ = some (.int .u32 M) := hr12.cell 2
      clear k0 k1 k2 kk hn2 hb2
      cases he : (recB G S M == l) with
      | false =>
        have hi : isRec l = false := by rw [HREC.out]; simp at he; simp [he]
        have HI := Lib.hid hi
        have he' : (recB G S M != l) = true := by simp [bne, he]
        clear hi he hB2 hB3 hr12 q0 q1 q2
        go_wp2_with (first
          | (refine store_row rfl 66 _ _ rfl w.heap.size rfl [.int .u64 0, .int .u64 0, .int .u32 0] rfl _ [.int .u64 0, .int .u64 0, .int .u32 0] hr2 size_rrec rfl (by simp [Value.oneCell']) ?_; intro w3 hr3 hk3))
        refine bodyPost_ret (results_row2 rfl _ _ w.heap.size _ _ _ rfl hr3 Try.underlying66 rfl size_rrec) rfl ⟨?_, ?_⟩
        · rw [recV_none HI.out]; rfl
        · exact b2.trans (hk3.below b2.size fun k hk => by omega)
      | true =>
        have he2 : recB G S M = l := by simpa using he
        have hok : recOk G S = true := by
          cases hk : recOk G S with
          | true => rfl
          | false => rw [recB_none G S M hk] at he2; rw [← he2] at hl; cases hl
        have hi : isRec l = true := by rw [HREC.out]; simp [hok, he2]
        have HI := Lib.hid hi
        have he' : (recB G S M != l) = false := by simp [bne, he]
        clear hi he he2 hok hB2 hB3 hr12
        go_wp2_with (first
          | (refine store_row rfl 66 _ _ rfl w.heap.size rfl [.int .u64 G, .int .u64 S, .int .u32 M] rfl _ [.int .u64 0, .int .u64 0, .int .u32 0] hr2 size_rrec rfl (by simp [Value.oneCell']) ?_; intro w3 hr3 hk3))
        refine bodyPost_ret (results_row2 rfl _ _ w.heap.size _ _ _ rfl hr3 Try.underlying66 rfl size_rrec) rfl ⟨?_, ?_⟩
        · rw [HSOME.out HI.out]; rfl
        · exact b2.trans (hk3.below b2.size fun k hk => by omega)
  · have hi := isRec_len hl
    have HI := Lib.hid hi
    clear hi
    rw [← hn] at hl
    clear h
    go_enter Try.func46, Try.ntmps46
    go_wp2_with (first
      | (refine alloc_row rfl 66 rfl _ _ _ info_rrec [.int .u64 0, .int .u64 0, .int .u32 0] rfl ?_)
      | (refine store_row rfl 66 _ _ rfl w.heap.size rfl [.int .u64 0, .int .u64 0, .int .u32 0] rfl _ [.int .u64 0, .int .u64 0, .int .u32 0] hr0 size_rrec rfl (by simp [Value.oneCell']) ?_; intro w3 hr3 hk3))
    refine bodyPost_ret (results_row2 rfl _ _ w.heap.size _ _ _ rfl hr3 Try.underlying66 rfl size_rrec) rfl ⟨?_, ?_⟩
    · rw [recV_none HI.out]; rfl
    · exact hb0.trans (hk3.below hb0.size fun k hk => by omega)
end Go.Proofs.Ytibjcadingedaaa
