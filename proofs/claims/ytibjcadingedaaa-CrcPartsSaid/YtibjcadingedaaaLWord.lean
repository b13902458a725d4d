import Derived.Test.YtibjcadingedaaaWord2
namespace Go.Proofs.Ytibjcadingedaaa
open Go Go.RowKit Go.Own
set_option linter.unusedVariables false
set_option maxHeartbeats 8000000 in
theorem wordTells_walk (w : World) (a : Option Addr) (n c : Nat) (l : List UInt8) (at_ v u : Int) (h : Bs w a n c l) (a0 : 0 ≤ at_) (a1 : at_ ≤ 18446744073709551615)
    (v0 : 0 ≤ v) (v1 : v ≤ 18446744073709551615) (u0 : 0 ≤ u) (u1 : u ≤ 4294967295) :
    Calls Try.prog 5 #[.slice a n c, .int .u64 at_, .int .u64 v, .int .u32 u] w fun e w' => e = .returned (.bool true) ∧ Below w.heap.size w w' := by
  have hl := h.len
  subst hl
  have hcap := Sl.cap h
  have hroom := Sl.room h
  have H := Lib.hid h; clear h
  go_enter Try.func5, Try.ntmps5
  go_wp2_with fail
  with_reducible refine (up01 _).mono ?_; rintro e w1 ⟨rfl, hb⟩
  have H1 := Lib.hid (H.out.below hb); clear H
  by_cases hg : l.length > 10000
  · go_wp2
    go_ret
    exact ⟨rfl, hb⟩
  · obtain ⟨g0, g1⟩ := getV_lt l at_ 4 (by decide)
    have g1' : getV l at_ 4 < 4294967296 := by simpa using g1
    have hw := wrapU64 (n := getV l at_ 4) g0 (by omega)
    have hwu := wrapU64 (n := u) u0 (by omega)
    clear g1
    have HB := Lib.hid hb; clear hb
    go_wp2_with fail
    with_reducible refine (word_Get _ _ _ _ _ _ H1.out a0 a1).mono ?_; rintro e w2 ⟨rfl, rfl⟩
    go_wp2_with fail
    with_reducible refine (ref_Get _ _ _ _ _ _ _ H1.out a0 a1 (by decide) (by decide)).mono ?_; rintro e w2 ⟨rfl, rfl⟩
    go_wp2_with fail
    with_reducible refine (word_Get4 _ _ _ _ _ _ H1.out a0 a1).mono ?_; rintro e w2 ⟨rfl, rfl⟩
    go_wp2_with fail
    with_reducible refine (ref_Get _ _ _ _ _ _ _ H1.out a0 a1 (by decide) (by decide)).mono ?_; rintro e w2 ⟨rfl, rfl⟩
    go_wp2_with fail
    refine flow_begin (F := fun _ => False) hmixed 42 rfl (by repeat (first | exact ps_body | refine ps_then ?_ | refine ps_block ?_)) (fun hps => ?_)
    simp only [List.replicate]
    have kk := Keep.refl (fun _ => False) (w1)
    refine flow_take 0 (v := ?v13) (a' := ?a13) hps rfl (by kernel_rfl) rfl ?r13 ?h13 ?_
    case r13 => intro w' hk; go_simp; try rfl
    case h13 => simp only [Act.put, List.setIfInBounds_toArray, List.set_cons_succ, List.set_cons_zero]; try rfl
    refine flow_take 1 (v := ?v14) (a' := ?a14) hps rfl (by kernel_rfl) rfl ?r14 ?h14 ?_
    case r14 => intro w' hk; go_simp; try rfl
    case h14 => simp only [Act.put, List.setIfInBounds_toArray, List.set_cons_succ, List.set_cons_zero]; try rfl
    refine flow_take 2 (v := ?v15) (a' := ?a15) hps rfl (by kernel_rfl) rfl ?r15 ?h15 ?_
    case r15 => intro w' hk; go_simp; try rfl
    case h15 => simp only [Act.put, List.setIfInBounds_toArray, List.set_cons_succ, List.set_cons_zero]; try rfl
    refine flow_take 3 (v := ?v16) (a' := ?a16) hps rfl (by kernel_rfl) rfl ?r16 ?h16 ?_
    case r16 => intro w' hk; go_simp; try rfl
    case h16 => simp only [Act.put, List.setIfInBounds_toArray, List.set_cons_succ, List.set_cons_zero]; try rfl
    refine flow_take 4 (v := ?v17) (a' := ?a17) hps rfl (by kernel_rfl) rfl ?r17 ?h17 ?_
    case r17 => intro w' hk; go_simp; try rfl
    case h17 => simp only [Act.put, List.setIfInBounds_toArray, List.set_cons_succ, List.set_cons_zero]; try rfl
    refine flow_take 5 (v := ?v18) (a' := ?a18) hps rfl (by kernel_rfl) rfl ?r18 ?h18 ?_
    case r18 => intro w' hk; go_simp; try rfl
    case h18 => simp only [Act.put, List.setIfInBounds_toArray, List.set_cons_succ, List.set_cons_zero]; try rfl
    refine flow_take 6 (v := ?v19) (a' := ?a19) hps rfl (by kernel_rfl) rfl ?r19 ?h19 ?_
    case r19 => intro w' hk; go_simp; try rfl
    case h19 => simp only [Act.put, List.setIfInBounds_toArray, List.set_cons_succ, List.set_cons_zero]; try rfl
    refine flow_take 7 (v := ?v20) (a' := ?a20) hps rfl (by kernel_rfl) rfl ?r20 ?h20 ?_
    case r20 => intro w' hk; go_simp; try rfl
    case h20 => simp only [Act.put, List.setIfInBounds_toArray, List.set_cons_succ, List.set_cons_zero]; try rfl
    refine flow_take 8 (v := ?v21) (a' := ?a21) hps rfl (by kernel_rfl) rfl ?r21 ?h21 ?_
    case r21 => intro w' hk; go_simp; try rfl
    case h21 => simp only [Act.put, List.setIfInBounds_toArray, List.set_cons_succ, List.set_cons_zero]; try rfl
    refine flow_take 9 (v := ?v22) (a' := ?a22) hps rfl (by kernel_rfl) rfl ?r22 ?h22 ?_
    case r22 => intro w' hk; go_simp; try rfl
    case h22 => simp only [Act.put, List.setIfInBounds_toArray, List.set_cons_succ, List.set_cons_zero]; try rfl
    refine flow_take 10 (v := ?v23) (a' := ?a23) hps rfl (by kernel_rfl) rfl ?r23 ?h23 ?_
    case r23 => intro w' hk; go_simp; try rfl
    case h23 => simp only [Act.put, List.setIfInBounds_toArray, List.set_cons_succ, List.set_cons_zero]; try rfl
    refine flow_take 11 (v := ?v24) (a' := ?a24) hps rfl (by kernel_rfl) rfl ?r24 ?h24 ?_
    case r24 => intro w' hk; go_simp; try rfl
    case h24 => simp only [Act.put, List.setIfInBounds_toArray, List.set_cons_succ, List.set_cons_zero]; try rfl
    refine flow_take 12 (v := ?v25) (a' := ?a25) hps rfl (by kernel_rfl) rfl ?r25 ?h25 ?_
    case r25 => intro w' hk; go_simp; try rfl
    case h25 => simp only [Act.put, List.setIfInBounds_toArray, List.set_cons_succ, List.set_cons_zero]; try rfl
    refine flow_take 13 (v := ?v26) (a' := ?a26) hps rfl (by kernel_rfl) rfl ?r26 ?h26 ?_
    case r26 => intro w' hk; go_simp; try rfl
    case h26 => simp only [Act.put, List.setIfInBounds_toArray, List.set_cons_succ, List.set_cons_zero]; try rfl
    refine flow_take 14 (v := ?v27) (a' := ?a27) hps rfl (by kernel_rfl) rfl ?r27 ?h27 ?_
    case r27 => intro w' hk; go_simp; try rfl
    case h27 => simp only [Act.put, List.setIfInBounds_toArray, List.set_cons_succ, List.set_cons_zero]; try rfl
    refine flow_take 15 (v := ?v28) (a' := ?a28) hps rfl (by kernel_rfl) rfl ?r28 ?h28 ?_
    case r28 => intro w' hk; go_simp; try rfl
    case h28 => simp only [Act.put, List.setIfInBounds_toArray, List.set_cons_succ, List.set_cons_zero]; try rfl
    refine flow_take 16 (v := ?v29) (a' := ?a29) hps rfl (by kernel_rfl) rfl ?r29 ?h29 ?_
    case r29 => intro w' hk; go_simp; try rfl
    case h29 => simp only [Act.put, List.setIfInBounds_toArray, List.set_cons_succ, List.set_cons_zero]; try rfl
    refine flow_take 17 (v := ?v30) (a' := ?a30) hps rfl (by kernel_rfl) rfl ?r30 ?h30 ?_
    case r30 => intro w' hk; go_simp; try rfl
    case h30 => simp only [Act.put, List.setIfInBounds_toArray, List.set_cons_succ, List.set_cons_zero]; try rfl
    refine flow_take 18 (v := ?v31) (a' := ?a31) hps rfl (by kernel_rfl) rfl ?r31 ?h31 ?_
    case r31 => intro w' hk; go_simp; try rfl
    case h31 => simp only [Act.put, List.setIfInBounds_toArray, List.set_cons_succ, List.set_cons_zero]; try rfl
    refine flow_take 19 (v := ?v32) (a' := ?a32) hps rfl (by kernel_rfl) rfl ?r32 ?h32 ?_
    case r32 => intro w' hk; go_simp; try rfl
    case h32 => simp only [Act.put, List.setIfInBounds_toArray, List.set_cons_succ, List.set_cons_zero]; try rfl
    refine flow_take 20 (v := ?v33) (a' := ?a33) hps rfl (by kernel_rfl) rfl ?r33 ?h33 ?_
    case r33 => intro w' hk; go_simp; try rfl
    case h33 => simp only [Act.put, List.setIfInBounds_toArray, List.set_cons_succ, List.set_cons_zero]; try rfl
    refine flow_take 21 (v := ?v34) (a' := ?a34) hps rfl (by kernel_rfl) rfl ?r34 ?h34 ?_
    case r34 => intro w' hk; go_simp; try rfl
    case h34 => simp only [Act.put, List.setIfInBounds_toArray, List.set_cons_succ, List.set_cons_zero]; try rfl
    refine flow_take 22 (v := ?v35) (a' := ?a35) hps rfl (by kernel_rfl) rfl ?r35 ?h35 ?_
    case r35 => intro w' hk; go_simp; try rfl
    case h35 => simp only [Act.put, List.setIfInBounds_toArray, List.set_cons_succ, List.set_cons_zero]; try rfl
    refine flow_take 23 (v := ?v36) (a' := ?a36) hps rfl (by kernel_rfl) rfl ?r36 ?h36 ?_
    case r36 => intro w' hk; go_simp; try rfl
    case h36 => simp only [Act.put, List.setIfInBounds_toArray, List.set_cons_succ, List.set_cons_zero]; try rfl
    refine flow_take 26 (v := ?v37) (a' := ?a37) hps rfl (by kernel_rfl) rfl ?r37 ?h37 ?_
    case r37 => intro w' hk; go_simp; try rfl
    case h37 => simp only [Act.put, List.setIfInBounds_toArray, List.set_cons_succ, List.set_cons_zero]; try rfl
    refine flow_one 24 hps rfl (by kernel_rfl) rfl (fun w24x hk24 => wp_next (fun K hK => ?_))
    go_simp
    go_at_call 24
    with_reducible refine (word_Put _ _ v0 v1).mono ?_
    rintro e wa ⟨aa, na, ca, rfl, hBa, hna, hba⟩
    have kp := Keep.of_below (F := fun _ => False) hba
    refine hK _ _ ⟨kp, ?_⟩
    replace kk := (kk.trans hk24).trans kp; clear kp hK hk24
    refine flow_take 25 (v := ?v39) (a' := ?a39) hps rfl (by kernel_rfl) rfl ?r39 ?h39 ?_
    case r39 => intro w' hk; have hr := run_s w' (hBa.keep hk fun _ _ h => h); go_simp; try rfl
    case h39 => simp only [Act.put, List.setIfInBounds_toArray, List.set_cons_succ, List.set_cons_zero]; try rfl
    refine flow_one 27 hps rfl (by kernel_rfl) rfl (fun w27x hk27 => wp_next (fun K hK => ?_))
    go_simp
    go_at_call 25
    with_reducible refine (ref_Low _ _ 8 8 rfl v0 v1 (by decide)).mono ?_
    rintro e wb ⟨vb, rfl, hob, hbb⟩
    obtain ⟨ab, cb, rfl, _, hBb⟩ := Sl.of_owned hob
    have kp := Keep.of_below (F := fun _ => False) hbb
    refine hK _ _ ⟨kp, ?_⟩
    replace kk := (kk.trans hk27).trans kp; clear kp hK hk27
    refine flow_take 28 (v := ?v41) (a' := ?a41) hps rfl (by kernel_rfl) rfl ?r41 ?h41 ?_
    case r41 => intro w' hk; have hr := run_s w' (Bs.keep hBb hk fun _ _ h => h); go_simp; try rfl
    case h41 => simp only [Act.put, List.setIfInBounds_toArray, List.set_cons_succ, List.set_cons_zero]; try rfl
    refine flow_take 29 (v := ?v42) (a' := ?a42) hps rfl (by kernel_rfl) rfl ?r42 ?h42 ?_
    case r42 => intro w' hk; go_simp; try rfl
    case h42 => simp only [Act.put, List.setIfInBounds_toArray, List.set_cons_succ, List.set_cons_zero]; try rfl
    refine flow_take 30 (v := ?v43) (a' := ?a43) hps rfl (by kernel_rfl) rfl ?r43 ?h43 ?_
    case r43 => intro w' hk; go_simp; try rfl
    case h43 => simp only [Act.put, List.setIfInBounds_toArray, List.set_cons_succ, List.set_cons_zero]; try rfl
    refine flow_take 31 (v := ?v44) (a' := ?a44) hps rfl (by kernel_rfl) rfl ?r44 ?h44 ?_
    case r44 => intro w' hk; go_simp; try rfl
    case h44 => simp only [Act.put, List.setIfInBounds_toArray, List.set_cons_succ, List.set_cons_zero]; try rfl
    refine flow_take 32 (v := ?v45) (a' := ?a45) hps rfl (by kernel_rfl) rfl ?r45 ?h45 ?_
    case r45 => intro w' hk; go_simp; try rfl
    case h45 => simp only [Act.put, List.setIfInBounds_toArray, List.set_cons_succ, List.set_cons_zero]; try rfl
    refine flow_take 35 (v := ?v46) (a' := ?a46) hps rfl (by kernel_rfl) rfl ?r46 ?h46 ?_
    case r46 => intro w' hk; go_simp; try rfl
    case h46 => simp only [Act.put, List.setIfInBounds_toArray, List.set_cons_succ, List.set_cons_zero]; try rfl
    refine flow_take 36 (v := ?v47) (a' := ?a47) hps rfl (by kernel_rfl) rfl ?r47 ?h47 ?_
    case r47 => intro w' hk; go_simp; try rfl
    case h47 => simp only [Act.put, List.setIfInBounds_toArray, List.set_cons_succ, List.set_cons_zero]; try rfl
    refine flow_one 33 hps rfl (by kernel_rfl) rfl (fun w33x hk33 => wp_next (fun K hK => ?_))
    go_simp
    go_at_call 26
    with_reducible refine (word_Put4 _ _ u0 u1).mono ?_
    rintro e wc ⟨ac, nc, cc, rfl, hBc, hnc, hbc⟩
    have kp := Keep.of_below (F := fun _ => False) hbc
    refine hK _ _ ⟨kp, ?_⟩
    replace kk := (kk.trans hk33).trans kp; clear kp hK hk33
    refine flow_take 34 (v := ?v49) (a' := ?a49) hps rfl (by kernel_rfl) rfl ?r49 ?h49 ?_
    case r49 => intro w' hk; have hr := run_s w' (hBc.keep hk fun _ _ h => h); go_simp; try rfl
    case h49 => simp only [Act.put, List.setIfInBounds_toArray, List.set_cons_succ, List.set_cons_zero]; try rfl
    refine flow_one 37 hps rfl (by kernel_rfl) rfl (fun w37x hk37 => wp_next (fun K hK => ?_))
    go_simp
    go_at_call 25
    with_reducible refine (ref_Low _ _ 4 4 rfl u0 (by omega) (by decide)).mono ?_
    rintro e wd ⟨vd, rfl, hod, hbd⟩
    obtain ⟨ad, cd, rfl, _, hBd⟩ := Sl.of_owned hod
    have kp := Keep.of_below (F := fun _ => False) hbd
    refine hK _ _ ⟨kp, ?_⟩
    replace kk := (kk.trans hk37).trans kp; clear kp hK hk37
    refine flow_take 38 (v := ?v51) (a' := ?a51) hps rfl (by kernel_rfl) rfl ?r51 ?h51 ?_
    case r51 => intro w' hk; have hr := run_s w' (Bs.keep hBd hk fun _ _ h => h); go_simp; try rfl
    case h51 => simp only [Act.put, List.setIfInBounds_toArray, List.set_cons_succ, List.set_cons_zero]; try rfl
    refine flow_take 39 (v := ?v52) (a' := ?a52) hps rfl (by kernel_rfl) rfl ?r52 ?h52 ?_
    case r52 => intro w' hk; go_simp; try rfl
    case h52 => simp only [Act.put, List.setIfInBounds_toArray, List.set_cons_succ, List.set_cons_zero]; try rfl
    refine flow_take 40 (v := ?v53) (a' := ?a53) hps rfl (by kernel_rfl) rfl ?r53 ?h53 ?_
    case r53 => intro w' hk; go_simp; try rfl
    case h53 => simp only [Act.put, List.setIfInBounds_toArray, List.set_cons_succ, List.set_cons_zero]; try rfl
    refine flow_take 41 (v := ?v54) (a' := ?a54) hps rfl (by kernel_rfl) rfl ?r54 ?h54 ?_
    case r54 => intro w' hk; go_simp; try rfl
    case h54 => simp only [Act.put, List.setIfInBounds_toArray, List.set_cons_succ, List.set_cons_zero]; try rfl
    refine flow_done hps (by kernel_rfl) (fun wE hE => ?_)
    replace kk := kk.trans hE; clear hE
    go_wp2
    go_ret
    exact ⟨rfl, HB.out.trans (kk.below HB.out.size fun _ _ h => h)⟩

theorem wf_u64 {a : Int} (h : (Lit.int .u64 a).wf = true) : 0 ≤ a ∧ a ≤ 18446744073709551615 := by
  simp [Lit.wf, IntKind.min, IntKind.max, IntKind.bits, IntKind.signed] at h; omega
theorem wf_u32 {a : Int} (h : (Lit.int .u32 a).wf = true) : 0 ≤ a ∧ a ≤ 4294967295 := by
  simp [Lit.wf, IntKind.min, IntKind.max, IntKind.bits, IntKind.signed] at h; omega
theorem wordTells (w : World) (a : Option Addr) (n c : Nat) (l : List UInt8) (at_ v u : Int) (h : Bs w a n c l) (ha : (Lit.int .u64 at_).wf = true) (hv : (Lit.int .u64 v).wf = true) (hu : (Lit.int .u32 u).wf = true) :
    Calls Try.prog 5 #[.slice a n c, .int .u64 at_, .int .u64 v, .int .u32 u] w fun e w' => e = .returned (.bool true) ∧ Below w.heap.size w w' :=
  wordTells_walk w a n c l at_ v u h (wf_u64 ha).1 (wf_u64 ha).2 (wf_u64 hv).1 (wf_u64 hv).2 (wf_u32 hu).1 (wf_u32 hu).2
end Go.Proofs.Ytibjcadingedaaa
