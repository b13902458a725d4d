import Derived.Test.YtibjcadingedaaaLWord
namespace Go.Proofs.Ytibjcadingedaaa
open Go Go.RowKit Go.Own
set_option linter.unusedVariables false
/-- What is put is got, whatever stands around it. -/
theorem getV_mid (b m c : List UInt8) (k : Nat) (hm : m.length = k) : getV (b ++ m ++ c) b.length k = num m ∧ getOk (b ++ m ++ c) b.length k = true := by
  subst hm
  constructor
  · rw [getV, if_pos (by simp; omega)]; simp
  · exact decide_eq_true (by simp; omega)
theorem at4 (n : Nat) : ((n : Int) + 4) = ((n + 4 : Nat) : Int) := by omega
theorem word_mid (l l2 : List UInt8) (V : Nat) (hV : V < 18446744073709551616) :
    (getV (l ++ low V 8 ++ l2) (l.length : Int) 8 = (V : Int) ∧ getOk (l ++ low V 8 ++ l2) (l.length : Int) 8 = true) ∧
    (∃ lo hi : Nat, (((hi : Int) * 4294967296 + (lo : Int) != (V : Int)) = false ∧ hi < 4294967296 ∧ lo < 4294967296) ∧
    (getV (l ++ low V 8 ++ l2) (l.length : Int) 4 = (lo : Int) ∧ getOk (l ++ low V 8 ++ l2) (l.length : Int) 4 = true) ∧
    (getV (l ++ low V 8 ++ l2) ((l.length : Int) + 4) 4 = (hi : Int) ∧ getOk (l ++ low V 8 ++ l2) ((l.length : Int) + 4) 4 = true)) := by
  have p4 : (256 : Nat) ^ 4 = 4294967296 := by decide
  have p8 : (256 : Nat) ^ 8 = 18446744073709551616 := by decide
  have e1 := getV_mid l (low V 8) l2 8 (low_length _ _)
  have hs := low_add V 4 4
  have e2 := getV_mid l (low V 4) (low (V / 256 ^ 4) 4 ++ l2) 4 (low_length _ _)
  have e3 := getV_mid (l ++ low V 4) (low (V / 256 ^ 4) 4) l2 4 (low_length _ _)
  rw [num_low] at e1 e2 e3
  have q2 : l ++ low V 4 ++ (low (V / 256 ^ 4) 4 ++ l2) = l ++ low V (4 + 4) ++ l2 := by rw [hs]; simp only [List.append_assoc]
  have q3 : l ++ low V 4 ++ low (V / 256 ^ 4) 4 ++ l2 = l ++ low V (4 + 4) ++ l2 := by rw [hs]; simp only [List.append_assoc]
  rw [q2] at e2
  rw [q3, List.length_append, low_length] at e3
  rw [p8, Nat.mod_eq_of_lt hV] at e1
  rw [p4] at e2
  rw [p4, Nat.mod_eq_of_lt (by omega), ← at4] at e3
  exact ⟨e1, V % 4294967296, V / 4294967296, ⟨by rw [bne_eq_false_iff_eq]; omega, by omega, by omega⟩, e2, e3⟩
set_option maxHeartbeats 8000000 in
theorem wordBack_walk (w : World) (a : Option Addr) (n c : Nat) (l : List UInt8) (a2 : Option Addr) (n2 c2 : Nat) (l2 : List UInt8) (v at_ : Int) (h : Bs w a n c l) (h2 : Bs w a2 n2 c2 l2)
    (v0 : 0 ≤ v) (v1 : v ≤ 18446744073709551615) (a0 : 0 ≤ at_) (a1 : at_ ≤ 18446744073709551615) :
    Calls Try.prog 6 #[.slice a n c, .slice a2 n2 c2, .int .u64 v, .int .u64 at_] w fun e w' => e = .returned (.bool true) ∧ Below w.heap.size w w' := by
  have hl := h.len
  subst hl
  have hl2 := h2.len
  subst hl2
  have hcap := Sl.cap h
  have hroom := Sl.room h
  have hcap2 := Sl.cap h2
  have hroom2 := Sl.room h2
  have H := Lib.hid h; clear h
  have H2 := Lib.hid h2; clear h2
  go_enter Try.func6, Try.ntmps6
  go_wp2_with fail
  with_reducible refine (up01 _).mono ?_; rintro e w1 ⟨rfl, hb⟩
  have H1 := Lib.hid (H.out.below hb); clear H
  have H3 := Lib.hid (H2.out.below hb); clear H2
  by_cases hg : l.length > 1000
  · go_wp2
    go_ret
    exact ⟨rfl, hb⟩
  by_cases hg2 : l2.length > 1000
  · go_wp2
    go_ret
    exact ⟨rfl, hb⟩
  have HB := Lib.hid hb; clear hb
  have hs0 := Below.refl w1.heap.size w1
  have hal : Below w1.heap.size w1 (w1.alloc (.cells #[] 5 (0, 0))) := hs0.alloc (Nat.le_refl _) _
  have HA := Lib.hid (H1.out.below hal)
  have HAL := Lib.hid hal
  clear hs0 hal
  go_wp2_with (at_builtin; go_must (refine app_sl rfl (.tmp 29) (.tmp 30) 29 rfl w1.heap.size 5 (.int .u8 0) 1 1 Try.underlying29 info_u8 rfl (by decide) _ 0 [] rfl (own_empty w1 5 1) _ _ _ _ rfl HA.out (bv_one _) (by omega) (by omega) (le_alloc (Nat.le_refl _) _) ?_; intro x1 wA hA gA))
  have hAB := HAL.out.trans gA
  clear gA
  with_reducible refine (word_Put _ _ v0 v1).mono ?_; intro e wB hh
  unfold NewBs at hh
  obtain ⟨aB, hh⟩ := hh
  obtain ⟨nB, hh⟩ := hh
  obtain ⟨cB, hh⟩ := hh
  obtain ⟨he, hh⟩ := hh
  subst he
  obtain ⟨hB, hh⟩ := hh
  obtain ⟨hnB, hbB⟩ := hh
  have hv1 := own_below hA hbB
  have hAB2 := hAB.trans (hbB.mono hAB.size)
  have hz := hAB2.size
  have HL2 := Lib.hid ((H3.out.below (hAB2.mono (Nat.le_refl _))))
  have hnl := hB.len
  rw [low_length] at hnl
  subst hnl
  clear hnB hbB hA
  go_wp2_with (first
    | (at_builtin; refine app_sl rfl (.tmp 31) (.tmp 33) 29 rfl w1.heap.size 5 (.int .u8 0) 1 1 Try.underlying29 info_u8 rfl (by decide) _ _ _ rfl hv1 _ _ _ _ rfl hB (bv_one _) (by omega) (by omega) hz ?_; intro x2 wC hC gC; have hAC := hAB2.trans gC)
    | (at_builtin; refine app_sl rfl (.tmp 34) (.tmp 35) 29 rfl w1.heap.size 5 (.int .u8 0) 1 1 Try.underlying29 info_u8 rfl (by decide) _ _ _ rfl hC _ _ _ _ rfl (H3.out.below hAC) (bv_one _) (by omega) (by omega) hAC.size ?_; intro x3 wD hD gD; have hAD := hAC.trans gD))
  obtain ⟨aD, cD, rfl, _, hS⟩ := Sl.of_owned hD
  generalize 0 + l.length + 8 + l2.length = nD at hS ⊢
  clear hD
  obtain ⟨V, rfl⟩ : ∃ V : Nat, v = V := ⟨v.toNat, by omega⟩
  have hL : Bs wD aD nD cD (l ++ low V 8 ++ l2) := (show Sl wD aD nD cD 1 ((l ++ low V 8 ++ l2).map bv) from by simpa [List.map_append] using hS)
  obtain ⟨⟨c1, d1⟩, lo, hi, ⟨hne, hhi, hlo⟩, ⟨c2, d2⟩, ⟨c3, d3⟩⟩ := word_mid l l2 V (by omega)
  have k1 := word_Get wD aD nD cD _ (l.length : Int) hL (by omega) (by omega)
  have k2 := word_Get4 wD aD nD cD _ (l.length : Int) hL (by omega) (by omega)
  have k3 := word_Get4 wD aD nD cD _ ((l.length : Int) + 4) hL (by omega) (by omega)
  rw [c1, d1] at k1
  rw [c2, d2] at k2
  rw [c3, d3] at k3
  have K1 := Lib.hid k1; have K2 := Lib.hid k2; have K3 := Lib.hid k3; have HD := Lib.hid hAD;
  have HL := Lib.hid (H1.out.below (hAD.mono (Nat.le_refl _)))
  clear k1 k2 k3 c1 c2 c3 d1 d2 d3 hL hS hC hv1 hB hAC hAD hAB2 hAB
  with_reducible refine K1.out.mono ?_
  rintro e w2 ⟨rfl, rfl⟩
  go_wp2_with fail
  with_reducible refine K2.out.mono ?_
  rintro e w2 ⟨rfl, rfl⟩
  go_wp2_with fail
  with_reducible refine K3.out.mono ?_
  rintro e w2 ⟨rfl, rfl⟩
  go_wp2_with fail
  with_reducible refine (word_Put _ _ v0 v1).mono ?_
  intro e wE hh
  unfold NewBs at hh
  obtain ⟨aE, nE, cE, he, hE, hnE, hbE⟩ := hh
  subst he
  have hnl := hE.len
  rw [low_length] at hnl
  subst hnl
  have HD2 := Lib.hid (HD.out.trans (hbE.mono HD.out.size))
  have HL2 := Lib.hid (HL.out.below hbE)
  clear hE hnE hbE HL HD hne
  go_wp2_with fail
  have k4 := word_Get wE a l.length c _ at_ HL2.out a0 a1
  by_cases hf : at_ + 8 ≤ l.length
  · obtain ⟨A, rfl⟩ : ∃ A : Nat, at_ = A := ⟨at_.toNat, by omega⟩
    obtain ⟨b, o, rfl, hlt⟩ := Sl.some HL2.out (by omega) (by decide)
    have hy : getV l A 8 = (num ((l.drop A).take 8) : Nat) := by rw [getV, if_pos hf]; rfl
    have hx : getOk l A 8 = true := decide_eq_true hf
    have hlow : low ((num ((l.drop A).take 8) : Nat) : Int).toNat 8 = (l.take (A + 8)).drop A := by
      have h1 : ((l.drop A).take 8).length = 8 := by rw [List.length_take, List.length_drop]; omega
      have h2 := low_num ((l.drop A).take 8)
      rw [h1] at h2
      rw [Int.toNat_natCast, h2, List.drop_take]; simp
    have hcut := HL2.out.cut A (A + 8) (by omega) (by omega)
    have hnb : num ((l.drop A).take 8) < 18446744073709551616 := by
      have h1 := num_lt ((l.drop A).take 8)
      have h2 := Nat.pow_le_pow_right (n := 256) (by decide) (List.length_take_le 8 (l.drop A))
      have p8 : (256 : Nat) ^ 8 = 18446744073709551616 := by decide
      omega
    rw [hy, hx] at k4
    have kp := word_Put (v := (num ((l.drop A).take 8) : Nat)) (h0 := by omega) (h1 := by omega)
    rw [hlow] at kp
    generalize num ((l.drop A).take 8) = Y at k4 kp hnb
    rw [show A + 8 - A = 8 by omega] at hcut
    generalize (l.take (A + 8)).drop A = m at kp hcut
    have hne : ¬ c = A := by omega
    have hdec : decide ((A : Int) ≤ (l.length : Int) - 8) = true := decide_eq_true (by omega)
    have K4 := Lib.hid k4; have KP := Lib.hid kp; have HC := Lib.hid hcut
    clear k4 kp hcut hlow hy hx HL2
    with_reducible refine K4.out.mono ?_
    rintro e w2 ⟨rfl, rfl⟩
    go_wp2_with fail
    have s1 := wrapI64 (n := (A : Int)) (by omega) (by omega)
    have s2 := wrapI64 (n := (A : Int) + 8) (by omega) (by omega)
    have s3 : 0 ≤ (A : Int) + 8 ∧ (A : Int) + 8 ≤ c := by omega
    have s4 : (A : Int) ≤ max ((A : Int) + 8) 0 := by omega
    have s5 : ((A : Int) + 8).toNat = A + 8 := by omega
    have s6 : A + 8 - A = 8 := by omega
    refine flow_begin (F := fun _ => False) hmixed 16 rfl (by repeat (first | exact ps_body | refine ps_then ?_ | refine ps_block ?_)) (fun hps => ?_)
    simp only [List.replicate]
    have kk := Keep.refl (fun _ => False) (wE)
    refine flow_take 0 (v := ?v55) (a' := ?a55) hps rfl (by kernel_rfl) rfl ?r55 ?h55 ?_
    case r55 => intro w' hk; go_simp; try rfl
    case h55 => simp only [Act.put, List.setIfInBounds_toArray, List.set_cons_succ, List.set_cons_zero]; try rfl
    refine flow_take 1 (v := ?v56) (a' := ?a56) hps rfl (by kernel_rfl) rfl ?r56 ?h56 ?_
    case r56 => intro w' hk; go_simp; try rfl
    case h56 => simp only [Act.put, List.setIfInBounds_toArray, List.set_cons_succ, List.set_cons_zero]; try rfl
    refine flow_take 2 (v := ?v57) (a' := ?a57) hps rfl (by kernel_rfl) rfl ?r57 ?h57 ?_
    case r57 => intro w' hk; go_simp; try rfl
    case h57 => simp only [Act.put, List.setIfInBounds_toArray, List.set_cons_succ, List.set_cons_zero]; try rfl
    refine flow_take 5 (v := ?v58) (a' := ?a58) hps rfl (by kernel_rfl) rfl ?r58 ?h58 ?_
    case r58 => intro w' hk; go_simp; try rfl
    case h58 => simp only [Act.put, List.setIfInBounds_toArray, List.set_cons_succ, List.set_cons_zero]; try rfl
    refine flow_take 6 (v := ?v59) (a' := ?a59) hps rfl (by kernel_rfl) rfl ?r59 ?h59 ?_
    case r59 => intro w' hk; go_simp; try rfl
    case h59 => simp only [Act.put, List.setIfInBounds_toArray, List.set_cons_succ, List.set_cons_zero]; try rfl
    refine flow_take 7 (v := ?v60) (a' := ?a60) hps rfl (by kernel_rfl) rfl ?r60 ?h60 ?_
    case r60 => intro w' hk; go_simp; try rfl
    case h60 => simp only [Act.put, List.setIfInBounds_toArray, List.set_cons_succ, List.set_cons_zero]; try rfl
    refine flow_take 8 (v := ?v61) (a' := ?a61) hps rfl (by kernel_rfl) rfl ?r61 ?h61 ?_
    case r61 => intro w' hk; go_simp; try rfl
    case h61 => simp only [Act.put, List.setIfInBounds_toArray, List.set_cons_succ, List.set_cons_zero]; try rfl
    refine flow_take 9 (v := ?v62) (a' := ?a62) hps rfl (by kernel_rfl) rfl ?r62 ?h62 ?_
    case r62 => intro w' hk; go_simp; try rfl
    case h62 => simp only [Act.put, List.setIfInBounds_toArray, List.set_cons_succ, List.set_cons_zero]; try rfl
    refine flow_take 10 (v := ?v63) (a' := ?a63) hps rfl (by kernel_rfl) rfl ?r63 ?h63 ?_
    case r63 => intro w' hk; go_simp; try rfl
    case h63 => simp only [Act.put, List.setIfInBounds_toArray, List.set_cons_succ, List.set_cons_zero]; try rfl
    refine flow_take 11 (v := ?v64) (a' := ?a64) hps rfl (by kernel_rfl) rfl ?r64 ?h64 ?_
    case r64 => intro w' hk; go_simp; try rfl
    case h64 => simp only [Act.put, List.setIfInBounds_toArray, List.set_cons_succ, List.set_cons_zero]; try rfl
    refine flow_take 12 (v := ?v65) (a' := ?a65) hps rfl (by kernel_rfl) rfl ?r65 ?h65 ?_
    case r65 => intro w' hk; have hr := run_s w' (Bs.keep HC.out (kk.trans hk) fun _ _ h => h); go_simp; try rfl
    case h65 => simp only [Act.put, List.setIfInBounds_toArray, List.set_cons_succ, List.set_cons_zero]; try rfl
    refine flow_one 3 hps rfl (by kernel_rfl) rfl (fun w3x hk3 => wp_next (fun K hK => ?_))
    go_simp
    go_at_call 24
    refine (KP.out _).mono ?_
    intro e wa hh
    unfold NewBs at hh
    obtain ⟨aa, na, ca, he, hBa, hna, hba⟩ := hh
    subst he
    have kp := Keep.of_below (F := fun _ => False) hba
    refine hK _ _ ⟨kp, ?_⟩
    replace kk := (kk.trans hk3).trans kp; clear kp hK hk3
    refine flow_take 4 (v := ?v67) (a' := ?a67) hps rfl (by kernel_rfl) rfl ?r67 ?h67 ?_
    case r67 => intro w' hk; have hr := run_s w' (hBa.keep hk fun _ _ h => h); go_simp; try rfl
    case h67 => simp only [Act.put, List.setIfInBounds_toArray, List.set_cons_succ, List.set_cons_zero]; try rfl
    refine flow_take 13 (v := ?v68) (a' := ?a68) hps rfl (by kernel_rfl) rfl ?r68 ?h68 ?_
    case r68 => intro w' hk; go_simp; try rfl
    case h68 => simp only [Act.put, List.setIfInBounds_toArray, List.set_cons_succ, List.set_cons_zero]; try rfl
    refine flow_take 14 (v := ?v69) (a' := ?a69) hps rfl (by kernel_rfl) rfl ?r69 ?h69 ?_
    case r69 => intro w' hk; go_simp; try rfl
    case h69 => simp only [Act.put, List.setIfInBounds_toArray, List.set_cons_succ, List.set_cons_zero]; try rfl
    refine flow_take 15 (v := ?v70) (a' := ?a70) hps rfl (by kernel_rfl) rfl ?r70 ?h70 ?_
    case r70 => intro w' hk; go_simp; try rfl
    case h70 => simp only [Act.put, List.setIfInBounds_toArray, List.set_cons_succ, List.set_cons_zero]; try rfl
    refine flow_done hps (by kernel_rfl) (fun wE hE => ?_)
    replace kk := kk.trans hE; clear hE
    go_wp2
    go_ret
    exact ⟨rfl, HB.out.trans ((HD2.out.trans (kk.below HD2.out.size fun _ _ h => h)).mono HB.out.size)⟩
  · have hy : getV l at_ 8 = 0 := by rw [getV, if_neg hf]
    have hx : getOk l at_ 8 = false := decide_eq_false hf
    rw [hy, hx] at k4
    have K4 := Lib.hid k4
    clear k4 hy hx HL2
    with_reducible refine K4.out.mono ?_
    rintro e w2 ⟨rfl, rfl⟩
    go_wp2
    all_goals go_ret
    all_goals exact ⟨rfl, HB.out.trans (HD2.out.mono HB.out.size)⟩
theorem wordBack (w : World) (a : Option Addr) (n c : Nat) (l : List UInt8) (a2 : Option Addr) (n2 c2 : Nat) (l2 : List UInt8) (v at_ : Int) (h : Bs w a n c l) (h2 : Bs w a2 n2 c2 l2)
    (hv : (Lit.int .u64 v).wf = true) (ha : (Lit.int .u64 at_).wf = true) :
    Calls Try.prog 6 #[.slice a n c, .slice a2 n2 c2, .int .u64 v, .int .u64 at_] w fun e w' => e = .returned (.bool true) ∧ Below w.heap.size w w' :=
  wordBack_walk w a n c l a2 n2 c2 l2 v at_ h h2 (wf_u64 hv).1 (wf_u64 hv).2 (wf_u64 ha).1 (wf_u64 ha).2
end Go.Proofs.Ytibjcadingedaaa
