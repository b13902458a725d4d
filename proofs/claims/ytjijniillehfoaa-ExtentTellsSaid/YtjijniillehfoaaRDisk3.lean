/- The reference's disk: Write. -/
import Derived.Test.YtjijniillehfoaaRDisk2
namespace Go.Proofs.Ytjijniillehfoaa
open Go Go.RowKit Go.Own
set_option linter.unusedVariables false
set_option maxRecDepth 100000
theorem info_Wait : Info Try.prog 211 (.agg #[.int .i64 0, .slice none 0 0]) 2 32 := by unfold Info; kernel_rfl
theorem rd_Write_arg (w : World) (p : Nat) (D : Dk) (F : Nat → Prop) (h : RdRep w p D F) (i : Int) (a : Option Addr) (n c : Nat) (b : List UInt8) (hb : Bs w a n c b) (hf : ¬ (0 ≤ i ∧ i < D.L.length ∧ b.length = 512)) :
    Calls Try.prog 136 #[.pointer (some ⟨p, 0, none⟩), .int .i64 i, .slice a n c] w fun e w' => e = .returned (.int .i64 1) ∧ w = w' := by
  have hn := hb.len
  have hc := Sl.cap hb; have hr := Sl.room hb
  subst hn
  clear hb
  obtain ⟨vL, vW, ss, it, h, hg, hF⟩ := h
  obtain ⟨aL, cL, rfl, _, _⟩ := h.formL
  have q0 : w.cell? ⟨p, 0, none⟩ = some (.slice aL ss.length cL) := h.row.cell 0
  rw [h.len.1] at hf
  clear h hg hF
  by_cases c1 : i < 0
  · clear hf
    go_enter Try.func136, Try.ntmps136
    go_wp2
    go_ret
    exact ⟨rfl, rfl⟩
  · by_cases c2 : (ss.length : Int) ≤ i
    · clear hf
      go_enter Try.func136, Try.ntmps136
      go_wp2
      go_ret
      exact ⟨rfl, rfl⟩
    · have e1 : ((b.length : Int) != 512) = true := by rw [bne_iff_ne]; omega
      clear hf
      go_enter Try.func136, Try.ntmps136
      go_wp2
      go_ret
      exact ⟨rfl, rfl⟩
theorem rd_Write_down (w : World) (p : Nat) (D : Dk) (F : Nat → Prop) (h : RdRep w p D F) (i : Int) (a : Option Addr) (n c : Nat) (b : List UInt8) (hb : Bs w a n c b) (h0 : 0 ≤ i) (h1 : i < D.L.length) (h2 : b.length = 512) (hd : D.off = true ∨ D.left = 0) :
    Calls Try.prog 136 #[.pointer (some ⟨p, 0, none⟩), .int .i64 i, .slice a n c] w fun e w' => e = .returned (.int .i64 6) ∧ RdTo p { D with off := true } F w w' := by
  have hn := hb.len
  rw [h2] at hn
  subst hn
  clear hb h2
  obtain ⟨vL, vW, ss, it, h, hg, hF⟩ := h
  obtain ⟨aL, cL, rfl, _, _⟩ := h.formL
  have q0 : w.cell? ⟨p, 0, none⟩ = some (.slice aL ss.length cL) := h.row.cell 0
  have q2 : w.cell? ⟨p, 2, none⟩ = some (.bool D.off) := h.row.cell 2
  have q3 : w.cell? ⟨p, 3, none⟩ = some (.int .i64 D.left) := h.row.cell 3
  have f2 := h.row.frozen 2
  rw [h.len.1] at h1
  have hgd : ({ D with off := true } : Dk).Good := ⟨hg.secs, hg.many, hg.waits, hg.left⟩
  have H := Lib.hid h; have HF := Lib.hid hF; have HG := Lib.hid hgd
  clear h hF hgd
  by_cases hl : D.left = 0
  · rw [hl] at q3
    have HL := Lib.hid hl
    clear hl hd hg
    have r := H.out.row.set 2 (.bool true)
    have kp := (Keep.refl (· = p) w).setCell (p := ⟨p, 2, none⟩) (.inl rfl) (.bool true)
    have R := Lib.hid r; have KP := Lib.hid kp
    clear r kp
    go_enter Try.func136, Try.ntmps136
    go_wp2
    go_ret
    refine ⟨rfl, F, ⟨_, _, ss, it, H.out.row2 (D' := { D with off := true }) R.out KP.out rfl rfl, HG.out, HF.out⟩, KP.out.mono fun k _ e => ?_, fun k hk => .inl hk⟩
    exact HF.out k (.inl e)
  · have ho : D.off = true := hd.resolve_right hl
    have e0 : (D.left == 0) = false := by rw [beq_eq_false_iff_ne]; exact hl
    rw [ho] at q2
    have HO := Lib.hid ho
    have hg2 := hg.left
    clear ho hd hg
    go_enter Try.func136, Try.ntmps136
    go_wp2
    go_ret
    refine ⟨rfl, F, ⟨_, _, ss, it, ?_, HG.out, HF.out⟩, Keep.refl _ _, fun k hk => .inl hk⟩
    have hD : ({ D with off := true } : Dk) = D := by rw [← HO.out]
    rw [hD]; exact H.out
set_option maxHeartbeats 8000000 in
theorem rd_Write_ok (w : World) (p : Nat) (D : Dk) (F : Nat → Prop) (h : RdRep w p D F) (i : Int) (I : Nat) (hI : i = I) (a : Option Addr) (n c : Nat) (b : List UInt8) (hb : Bs w a n c b) (h1 : I < D.L.length) (h2 : b.length = 512) (ho : D.off = false) (hl : D.left ≠ 0) (hmany : D.wait.length ≤ 1000000) :
    Calls Try.prog 136 #[.pointer (some ⟨p, 0, none⟩), .int .i64 i, .slice a n c] w fun e w' => e = .returned (.int .i64 0) ∧ RdTo p { D with left := if 0 < D.left then D.left - 1 else D.left, wait := D.wait ++ [(I, b)] } F w w' := by
  subst hI
  have hn := hb.len
  rw [h2] at hn
  subst hn
  obtain ⟨vL, vW, ss, it, h, hg, hF⟩ := h
  obtain ⟨aL, cL, rfl, _, _⟩ := h.formL
  obtain ⟨aW, cW, rfl, _, _⟩ := h.formW
  have hit : it.length ≤ 1000000 := by have := h.len.2; omega
  have q0 : w.cell? ⟨p, 0, none⟩ = some (.slice aL ss.length cL) := h.row.cell 0
  have q2 : w.cell? ⟨p, 2, none⟩ = some (.bool D.off) := h.row.cell 2
  have q3 : w.cell? ⟨p, 3, none⟩ = some (.int .i64 D.left) := h.row.cell 3
  have f3 := h.row.frozen 3
  rw [ho] at q2
  have hgl := hg.left
  have hgood : ({ D with left := if 0 < D.left then D.left - 1 else D.left, wait := D.wait ++ [(I, b)] } : Dk).Good := by
    have := hg.write (I : Int) b
    unfold Dk.write at this
    rw [if_neg (by simp; exact ⟨h1, h2⟩), if_neg (by rw [ho]; simp; exact hl)] at this
    exact this
  have hlen := h.len.1
  have h1' : I < ss.length := by omega
  have hm := hg.many
  have e0 : (D.left == 0) = false := by rw [beq_eq_false_iff_ne]; exact hl
  have HB := Lib.hid hb; have H := Lib.hid h; have HF := Lib.hid hF; have H2 := Lib.hid h2; have HO := Lib.hid ho; have HG := Lib.hid hgood
  clear h hF hb h2 ho hl hg hgood
  go_enter Try.func136, Try.ntmps136
  obtain ⟨L1, hL1⟩ : ∃ (L1 : Int), L1 = (if 0 < D.left then D.left - 1 else D.left) := ⟨_, rfl⟩
  by_cases cl : 0 < D.left
  · have HIF := Lib.hid hL1
    rw [if_pos cl] at hL1
    have r := H.out.row.set 3 (.int .i64 L1)
    have kp := (Keep.refl (· = p) w).setCell (p := ⟨p, 3, none⟩) (.inl rfl) (.int .i64 L1)
    have HW := Lib.hid (H.out.row2 (D' := { D with left := L1 }) r kp rfl rfl)
    have KW := Lib.hid kp
    clear r kp
    subst hL1
    go_wp2_with fail
    generalize w.setCell ⟨p, 3, none⟩ (.int .i64 (D.left - 1)) = W at HW KW ⊢
    have hlW := H.out.row.lt
    have hszW := KW.out.size
    have HRW := HW.out.row
    have hpW : p < W.heap.size := HW.out.row.lt
    have hneB : off (· = p) a := Bs.off_row HB.out H.out.row (by have := H2.out; omega) (by simp [bv])
    have hB : Bs W a 512 c b := HB.out.keep KW.out hneB
    have hrow : Row W.drew p 47 [.slice aL ss.length cL, .slice aW it.length cW, .bool D.off, .int .i64 (D.left - 1)] := HRW.drew
    have hown : W.drew.ownsRow 0 211 2 (.slice aW it.length cW) it.length (it.map Wt.cells).flatten := own_drew HW.out.ownW
    have hBd := hB.drew
    have hb16 : b.length ≤ 140737488355328 := by have := H2.out; omega
    have HB16 := Lib.hid hb16
    clear hB hneB HRW hb16
    refine flowe_begin (F := fun k => k = p ∨ (Value.slice aW it.length cW).ownBlock = some k ∨ W.heap.size ≤ k) hmixed 15 rfl (by repeat (first | exact ps_body | refine ps_then ?_ | refine ps_block ?_)) (fun hps => ?_)
    simp only [List.replicate]
    have kk := (Keep.refl (fun k => k = p ∨ (Value.slice aW it.length cW).ownBlock = some k ∨ W.heap.size ≤ k) (W)).drew
    refine flowe_take 0 (v := ?_) (a' := ?_) hps rfl (by kernel_rfl) rfl ?_ ?_ ?_
    rotate_left 2
    · intro w' hk; go_simp; try rfl
    · simp only [Act.put, List.setIfInBounds_toArray, List.set_cons_succ, List.set_cons_zero]; try rfl
    refine flowe_take 1 (v := ?_) (a' := ?_) hps rfl (by kernel_rfl) rfl ?_ ?_ ?_
    rotate_left 2
    · intro w' hk; go_simp; try rfl
    · simp only [Act.put, List.setIfInBounds_toArray, List.set_cons_succ, List.set_cons_zero]; try rfl
    refine flowe_take 2 (v := ?_) (a' := ?_) hps rfl (by kernel_rfl) rfl ?_ ?_ ?_
    rotate_left 2
    · intro w' hk; go_simp; try rfl
    · simp only [Act.put, List.setIfInBounds_toArray, List.set_cons_succ, List.set_cons_zero]; try rfl
    refine flowe_take 3 (v := ?_) (a' := ?_) hps rfl (by kernel_rfl) rfl ?_ ?_ ?_
    rotate_left 2
    · intro w' hk; go_simp; try rfl
    · simp only [Act.put, List.setIfInBounds_toArray, List.set_cons_succ, List.set_cons_zero]; try rfl
    refine flowe_take 5 (v := ?_) (a' := ?_) hps rfl (by kernel_rfl) rfl ?_ ?_ ?_
    rotate_left 2
    · intro w' hk; go_simp; try rfl
    · simp only [Act.put, List.setIfInBounds_toArray, List.set_cons_succ, List.set_cons_zero]; try rfl
    refine flowe_take 7 (v := ?_) (a' := ?_) hps rfl (by kernel_rfl) rfl ?_ ?_ ?_
    rotate_left 2
    · intro w' hk; go_simp; try rfl
    · simp only [Act.put, List.setIfInBounds_toArray, List.set_cons_succ, List.set_cons_zero]; try rfl
    refine flowe_any [4, 6] hps (by kernel_rfl) (by simp) (fun i hi => ?_)
    simp only [List.mem_cons, List.not_mem_nil, or_false] at hi
    rcases hi with rfl | rfl
    focus
      refine ⟨_, rfl, rfl, wp_next (fun K hK => ?_)⟩
      have hc := hrow.cell 1
      simp only [List.getElem?_cons_succ, List.getElem?_cons_zero] at hc
      have hcW : W.cell? ⟨p, 1, none⟩ = some (.slice aW it.length cW) := HW.out.row.cell 1
      go_simp
      clear hc hcW
      refine hK _ _ (flow_step kk ?_ ?_)
      · first | exact kp | exact Keep.refl _ _ | exact (Keep.refl _ _).alloc _
      clear kk hK; try clear kp
      intro kk
      refine flowe_one 6 hps rfl (by kernel_rfl) rfl (wp_next (fun K hK => ?_))
      go_simp
      have hemp := own_empty W.drew 5 1
      replace hrow := hrow.alloc (.cells #[] 5 (0, 0))
      replace hown := hown.alloc (.cells #[] 5 (0, 0))
      replace hBd := hBd.below ((Below.refl _ _).alloc (Nat.le_refl _) (.cells #[] 5 (0, 0)))
      refine hK _ _ (flow_step kk ?_ ?_)
      · first | exact kp | exact Keep.refl _ _ | exact (Keep.refl _ _).alloc _
      clear kk hK; try clear kp
      intro kk
      refine flowe_one 8 hps rfl (by kernel_rfl) rfl (wp_next (fun K hK => ?_))
      refine app_at _ _ 31 rfl W.drew.heap.size 5 (.int .u8 0) 1 1 Try.underlying31 info_u8 rfl (by decide) _ 0 [] rfl hemp _ _ _ _ rfl hBd (bv_one _) (by have := HB16.out; omega) (by omega) (by simp) ?_
      intro v8 w8 hown8 kp8 hbl8
      have hs8 : W.heap.size ≤ w8.heap.size := Nat.le_trans (by simp [World.drew]) kp8.size
      have kp := kp8.mono (G := fun k => k = p ∨ (Value.slice aW it.length cW).ownBlock = some k ∨ W.heap.size ≤ k) (fun k _ hk => .inr (.inr (by cases hk; exact Nat.le_refl _)))
      replace hrow := hrow.keep kp8 (fun e => by cases e; exact absurd hlW (by show ¬ W.heap.size < w.heap.size; omega))
      replace hown := own_kept hown kp8 (fun k hk e => by have h1 := (own_block_lt HW.out.ownW hk).2; cases e; exact absurd h1 (by show ¬ W.heap.size < W.heap.size; omega))
      rw [List.nil_append] at hown8
      have hn8 : ∀ k, v8.ownBlock = some k → W.heap.size ≤ k := fun k hk => (own_block_lt hown8 hk).1
      have ho8 := own_base hown8 (Nat.zero_le _)
      obtain ⟨a8, c8, rfl, _, _⟩ := Sl.of_owned hown8
      simp only [Nat.zero_add] at ho8 hn8
      simp only [Act.put, List.setIfInBounds_toArray, List.set_cons_succ, List.set_cons_zero, Nat.zero_add]
      clear hemp hBd
      refine hK _ _ (flow_step kk ?_ ?_)
      · first | exact kp | exact Keep.refl _ _ | exact (Keep.refl _ _).alloc _
      clear kk hK; try clear kp
      intro kk
      refine flowe_take 9 (v := ?_) (a' := ?_) hps rfl (by kernel_rfl) rfl ?_ ?_ ?_
      rotate_left 2
      · intro w' hk; go_simp; try rfl
      · simp only [Act.put, List.setIfInBounds_toArray, List.set_cons_succ, List.set_cons_zero]; try rfl
      refine flowe_one 10 hps rfl (by kernel_rfl) rfl (wp_next (fun K hK => ?_))
      go_simp
      have hlit := Sl.lit w8 211 [.int .i64 I, .slice a8 512 c8] 1 2 rfl (by decide)
      replace hrow := hrow.alloc (.cells #[.int .i64 I, .slice a8 512 c8] 211 (0, 0))
      replace hown := hown.alloc (.cells #[.int .i64 I, .slice a8 512 c8] 211 (0, 0))
      replace ho8 := ho8.alloc (.cells #[.int .i64 I, .slice a8 512 c8] 211 (0, 0))
      refine hK _ _ (flow_step kk ?_ ?_)
      · first | exact kp | exact Keep.refl _ _ | exact (Keep.refl _ _).alloc _
      clear kk hK; try clear kp
      intro kk
      refine flowe_one 11 hps rfl (by kernel_rfl) rfl (wp_next (fun K hK => ?_))
      refine app_at _ _ 45 rfl 0 211 _ 2 32 Try.underlying45 info_Wait rfl (by decide) (.slice aW it.length cW) it.length _ rfl hown _ 1 1 _ rfl hlit (by intro u hu; simp only [List.mem_cons, List.not_mem_nil, or_false] at hu; rcases hu with rfl | rfl <;> rfl) (by omega) (by omega) (Nat.zero_le _) ?_
      intro v10 w10 hown10 kp10 hbl10
      have kp := kp10.mono (G := fun k => k = p ∨ (Value.slice aW it.length cW).ownBlock = some k ∨ W.heap.size ≤ k) (fun k _ hk => .inr (.inl hk))
      have hbl : ∀ k, v10.ownBlock = some k → (Value.slice aW it.length cW).ownBlock = some k ∨ W.heap.size ≤ k := fun k hk => hbl10.elim (fun e => .inl (by rw [← e]; exact hk)) (fun e => .inr (by rw [e] at hk; cases hk; exact Nat.le_trans hs8 (by simp)))
      replace hrow := hrow.keep kp10 (own_row_ne hown hrow (by decide))
      replace ho8 := own_kept ho8 kp10 (fun k hk hk2 => own_type_ne ho8 hown (by decide) hk hk2)
      obtain ⟨a10, c10, rfl, _, _⟩ := Sl.of_owned hown10
      simp only [Act.put, List.setIfInBounds_toArray, List.set_cons_succ, List.set_cons_zero]
      refine hK _ _ (flow_step kk ?_ ?_)
      · first | exact kp | exact Keep.refl _ _ | exact (Keep.refl _ _).alloc _
      clear kk hK; try clear kp
      intro kk
      refine flowe_take 12 (v := ?_) (a' := ?_) hps rfl (by kernel_rfl) rfl ?_ ?_ ?_
      rotate_left 2
      · intro w' hk; go_simp; try rfl
      · simp only [Act.put, List.setIfInBounds_toArray, List.set_cons_succ, List.set_cons_zero]; try rfl
      refine flowe_take 13 (v := ?_) (a' := ?_) hps rfl (by kernel_rfl) rfl ?_ ?_ ?_
      rotate_left 2
      · intro w' hk; go_simp; try rfl
      · simp only [Act.put, List.setIfInBounds_toArray, List.set_cons_succ, List.set_cons_zero]; try rfl
      refine flowe_one 14 hps rfl (by kernel_rfl) rfl (wp_next (fun K hK => ?_))
      have hc := hrow.cell 1
      simp only [List.getElem?_cons_succ, List.getElem?_cons_zero] at hc
      have hf := hrow.frozen 1
      go_simp
      have kp := (Keep.refl (fun k => k = p ∨ (Value.slice aW it.length cW).ownBlock = some k ∨ W.heap.size ≤ k) w10).setCell (p := ⟨p, 1, none⟩) (.inl (.inl rfl)) (.slice a10 (it.length + 1) c10)
      clear hc hf
      refine hK _ _ (flow_step kk ?_ ?_)
      · first | exact kp | exact Keep.refl _ _ | exact (Keep.refl _ _).alloc _
      clear kk hK; try clear kp
      intro kk
      refine flowe_done hps (by kernel_rfl) ?_
    all_goals skip
    rotate_left 1
    focus
      refine ⟨_, rfl, rfl, wp_next (fun K hK => ?_)⟩
      go_simp
      have hemp := own_empty W.drew 5 1
      replace hrow := hrow.alloc (.cells #[] 5 (0, 0))
      replace hown := hown.alloc (.cells #[] 5 (0, 0))
      replace hBd := hBd.below ((Below.refl _ _).alloc (Nat.le_refl _) (.cells #[] 5 (0, 0)))
      refine hK _ _ (flow_step kk ?_ ?_)
      · first | exact kp | exact Keep.refl _ _ | exact (Keep.refl _ _).alloc _
      clear kk hK; try clear kp
      intro kk
      refine flowe_any [4, 8] hps (by kernel_rfl) (by simp) (fun i hi => ?_)
      simp only [List.mem_cons, List.not_mem_nil, or_false] at hi
      rcases hi with rfl | rfl
      focus
        refine ⟨_, rfl, rfl, wp_next (fun K hK => ?_)⟩
        have hc := hrow.cell 1
        simp only [List.getElem?_cons_succ, List.getElem?_cons_zero] at hc
        have hcW : W.cell? ⟨p, 1, none⟩ = some (.slice aW it.length cW) := HW.out.row.cell 1
        go_simp
        clear hc hcW
        refine hK _ _ (flow_step kk ?_ ?_)
        · first | exact kp | exact Keep.refl _ _ | exact (Keep.refl _ _).alloc _
        clear kk hK; try clear kp
        intro kk
        refine flowe_one 8 hps rfl (by kernel_rfl) rfl (wp_next (fun K hK => ?_))
        refine app_at _ _ 31 rfl W.drew.heap.size 5 (.int .u8 0) 1 1 Try.underlying31 info_u8 rfl (by decide) _ 0 [] rfl hemp _ _ _ _ rfl hBd (bv_one _) (by have := HB16.out; omega) (by omega) (by simp) ?_
        intro v8 w8 hown8 kp8 hbl8
        have hs8 : W.heap.size ≤ w8.heap.size := Nat.le_trans (by simp [World.drew]) kp8.size
        have kp := kp8.mono (G := fun k => k = p ∨ (Value.slice aW it.length cW).ownBlock = some k ∨ W.heap.size ≤ k) (fun k _ hk => .inr (.inr (by cases hk; exact Nat.le_refl _)))
        replace hrow := hrow.keep kp8 (fun e => by cases e; exact absurd hlW (by show ¬ W.heap.size < w.heap.size; omega))
        replace hown := own_kept hown kp8 (fun k hk e => by have h1 := (own_block_lt HW.out.ownW hk).2; cases e; exact absurd h1 (by show ¬ W.heap.size < W.heap.size; omega))
        rw [List.nil_append] at hown8
        have hn8 : ∀ k, v8.ownBlock = some k → W.heap.size ≤ k := fun k hk => (own_block_lt hown8 hk).1
        have ho8 := own_base hown8 (Nat.zero_le _)
        obtain ⟨a8, c8, rfl, _, _⟩ := Sl.of_owned hown8
        simp only [Nat.zero_add] at ho8 hn8
        simp only [Act.put, List.setIfInBounds_toArray, List.set_cons_succ, List.set_cons_zero, Nat.zero_add]
        clear hemp hBd
        refine hK _ _ (flow_step kk ?_ ?_)
        · first | exact kp | exact Keep.refl _ _ | exact (Keep.refl _ _).alloc _
        clear kk hK; try clear kp
        intro kk
        refine flowe_take 9 (v := ?_) (a' := ?_) hps rfl (by kernel_rfl) rfl ?_ ?_ ?_
        rotate_left 2
        · intro w' hk; go_simp; try rfl
        · simp only [Act.put, List.setIfInBounds_toArray, List.set_cons_succ, List.set_cons_zero]; try rfl
        refine flowe_one 10 hps rfl (by kernel_rfl) rfl (wp_next (fun K hK => ?_))
        go_simp
        have hlit := Sl.lit w8 211 [.int .i64 I, .slice a8 512 c8] 1 2 rfl (by decide)
        replace hrow := hrow.alloc (.cells #[.int .i64 I, .slice a8 512 c8] 211 (0, 0))
        replace hown := hown.alloc (.cells #[.int .i64 I, .slice a8 512 c8] 211 (0, 0))
        replace ho8 := ho8.alloc (.cells #[.int .i64 I, .slice a8 512 c8] 211 (0, 0))
        refine hK _ _ (flow_step kk ?_ ?_)
        · first | exact kp | exact Keep.refl _ _ | exact (Keep.refl _ _).alloc _
        clear kk hK; try clear kp
        intro kk
        refine flowe_one 11 hps rfl (by kernel_rfl) rfl (wp_next (fun K hK => ?_))
        refine app_at _ _ 45 rfl 0 211 _ 2 32 Try.underlying45 info_Wait rfl (by decide) (.slice aW it.length cW) it.length _ rfl hown _ 1 1 _ rfl hlit (by intro u hu; simp only [List.mem_cons, List.not_mem_nil, or_false] at hu; rcases hu with rfl | rfl <;> rfl) (by omega) (by omega) (Nat.zero_le _) ?_
        intro v10 w10 hown10 kp10 hbl10
        have kp := kp10.mono (G := fun k => k = p ∨ (Value.slice aW it.length cW).ownBlock = some k ∨ W.heap.size ≤ k) (fun k _ hk => .inr (.inl hk))
        have hbl : ∀ k, v10.ownBlock = some k → (Value.slice aW it.length cW).ownBlock = some k ∨ W.heap.size ≤ k := fun k hk => hbl10.elim (fun e => .inl (by rw [← e]; exact hk)) (fun e => .inr (by rw [e] at hk; cases hk; exact Nat.le_trans hs8 (by simp)))
        replace hrow := hrow.keep kp10 (own_row_ne hown hrow (by decide))
        replace ho8 := own_kept ho8 kp10 (fun k hk hk2 => own_type_ne ho8 hown (by decide) hk hk2)
        obtain ⟨a10, c10, rfl, _, _⟩ := Sl.of_owned hown10
        simp only [Act.put, List.setIfInBounds_toArray, List.set_cons_succ, List.set_cons_zero]
        refine hK _ _ (flow_step kk ?_ ?_)
        · first | exact kp | exact Keep.refl _ _ | exact (Keep.refl _ _).alloc _
        clear kk hK; try clear kp
        intro kk
        refine flowe_take 12 (v := ?_) (a' := ?_) hps rfl (by kernel_rfl) rfl ?_ ?_ ?_
        rotate_left 2
        · intro w' hk; go_simp; try rfl
        · simp only [Act.put, List.setIfInBounds_toArray, List.set_cons_succ, List.set_cons_zero]; try rfl
        refine flowe_take 13 (v := ?_) (a' := ?_) hps rfl (by kernel_rfl) rfl ?_ ?_ ?_
        rotate_left 2
        · intro w' hk; go_simp; try rfl
        · simp only [Act.put, List.setIfInBounds_toArray, List.set_cons_succ, List.set_cons_zero]; try rfl
        refine flowe_one 14 hps rfl (by kernel_rfl) rfl (wp_next (fun K hK => ?_))
        have hc := hrow.cell 1
        simp only [List.getElem?_cons_succ, List.getElem?_cons_zero] at hc
        have hf := hrow.frozen 1
        go_simp
        have kp := (Keep.refl (fun k => k = p ∨ (Value.slice aW it.length cW).ownBlock = some k ∨ W.heap.size ≤ k) w10).setCell (p := ⟨p, 1, none⟩) (.inl (.inl rfl)) (.slice a10 (it.length + 1) c10)
        clear hc hf
        refine hK _ _ (flow_step kk ?_ ?_)
        · first | exact kp | exact Keep.refl _ _ | exact (Keep.refl _ _).alloc _
        clear kk hK; try clear kp
        intro kk
        refine flowe_done hps (by kernel_rfl) ?_
      all_goals skip
      rotate_left 1
      focus
        refine ⟨_, rfl, rfl, wp_next (fun K hK => ?_)⟩
        refine app_at _ _ 31 rfl W.drew.heap.size 5 (.int .u8 0) 1 1 Try.underlying31 info_u8 rfl (by decide) _ 0 [] rfl hemp _ _ _ _ rfl hBd (bv_one _) (by have := HB16.out; omega) (by omega) (by simp) ?_
        intro v8 w8 hown8 kp8 hbl8
        have hs8 : W.heap.size ≤ w8.heap.size := Nat.le_trans (by simp [World.drew]) kp8.size
        have kp := kp8.mono (G := fun k => k = p ∨ (Value.slice aW it.length cW).ownBlock = some k ∨ W.heap.size ≤ k) (fun k _ hk => .inr (.inr (by cases hk; exact Nat.le_refl _)))
        replace hrow := hrow.keep kp8 (fun e => by cases e; exact absurd hlW (by show ¬ W.heap.size < w.heap.size; omega))
        replace hown := own_kept hown kp8 (fun k hk e => by have h1 := (own_block_lt HW.out.ownW hk).2; cases e; exact absurd h1 (by show ¬ W.heap.size < W.heap.size; omega))
        rw [List.nil_append] at hown8
        have hn8 : ∀ k, v8.ownBlock = some k → W.heap.size ≤ k := fun k hk => (own_block_lt hown8 hk).1
        have ho8 := own_base hown8 (Nat.zero_le _)
        obtain ⟨a8, c8, rfl, _, _⟩ := Sl.of_owned hown8
        simp only [Nat.zero_add] at ho8 hn8
        simp only [Act.put, List.setIfInBounds_toArray, List.set_cons_succ, List.set_cons_zero, Nat.zero_add]
        clear hemp hBd
        refine hK _ _ (flow_step kk ?_ ?_)
        · first | exact kp | exact Keep.refl _ _ | exact (Keep.refl _ _).alloc _
        clear kk hK; try clear kp
        intro kk
        refine flowe_take 9 (v := ?_) (a' := ?_) hps rfl (by kernel_rfl) rfl ?_ ?_ ?_
        rotate_left 2
        · intro w' hk; go_simp; try rfl
        · simp only [Act.put, List.setIfInBounds_toArray, List.set_cons_succ, List.set_cons_zero]; try rfl
        refine flowe_any [4, 10] hps (by kernel_rfl) (by simp) (fun i hi => ?_)
        simp only [List.mem_cons, List.not_mem_nil, or_false] at hi
        rcases hi with rfl | rfl
        focus
          refine ⟨_, rfl, rfl, wp_next (fun K hK => ?_)⟩
          have hc := hrow.cell 1
          simp only [List.getElem?_cons_succ, List.getElem?_cons_zero] at hc
          have hcW : W.cell? ⟨p, 1, none⟩ = some (.slice aW it.length cW) := HW.out.row.cell 1
          go_simp
          clear hc hcW
          refine hK _ _ (flow_step kk ?_ ?_)
          · first | exact kp | exact Keep.refl _ _ | exact (Keep.refl _ _).alloc _
          clear kk hK; try clear kp
          intro kk
          refine flowe_one 10 hps rfl (by kernel_rfl) rfl (wp_next (fun K hK => ?_))
          go_simp
          have hlit := Sl.lit w8 211 [.int .i64 I, .slice a8 512 c8] 1 2 rfl (by decide)
          replace hrow := hrow.alloc (.cells #[.int .i64 I, .slice a8 512 c8] 211 (0, 0))
          replace hown := hown.alloc (.cells #[.int .i64 I, .slice a8 512 c8] 211 (0, 0))
          replace ho8 := ho8.alloc (.cells #[.int .i64 I, .slice a8 512 c8] 211 (0, 0))
          refine hK _ _ (flow_step kk ?_ ?_)
          · first | exact kp | exact Keep.refl _ _ | exact (Keep.refl _ _).alloc _
          clear kk hK; try clear kp
          intro kk
          refine flowe_one 11 hps rfl (by kernel_rfl) rfl (wp_next (fun K hK => ?_))
          refine app_at _ _ 45 rfl 0 211 _ 2 32 Try.underlying45 info_Wait rfl (by decide) (.slice aW it.length cW) it.length _ rfl hown _ 1 1 _ rfl hlit (by intro u hu; simp only [List.mem_cons, List.not_mem_nil, or_false] at hu; rcases hu with rfl | rfl <;> rfl) (by omega) (by omega) (Nat.zero_le _) ?_
          intro v10 w10 hown10 kp10 hbl10
          have kp := kp10.mono (G := fun k => k = p ∨ (Value.slice aW it.length cW).ownBlock = some k ∨ W.heap.size ≤ k) (fun k _ hk => .inr (.inl hk))
          have hbl : ∀ k, v10.ownBlock = some k → (Value.slice aW it.length cW).ownBlock = some k ∨ W.heap.size ≤ k := fun k hk => hbl10.elim (fun e => .inl (by rw [← e]; exact hk)) (fun e => .inr (by rw [e] at hk; cases hk; exact Nat.le_trans hs8 (by simp)))
          replace hrow := hrow.keep kp10 (own_row_ne hown hrow (by decide))
          replace ho8 := own_kept ho8 kp10 (fun k hk hk2 => own_type_ne ho8 hown (by decide) hk hk2)
          obtain ⟨a10, c10, rfl, _, _⟩ := Sl.of_owned hown10
          simp only [Act.put, List.setIfInBounds_toArray, List.set_cons_succ, List.set_cons_zero]
          refine hK _ _ (flow_step kk ?_ ?_)
          · first | exact kp | exact Keep.refl _ _ | exact (Keep.refl _ _).alloc _
          clear kk hK; try clear kp
          intro kk
          refine flowe_take 12 (v := ?_) (a' := ?_) hps rfl (by kernel_rfl) rfl ?_ ?_ ?_
          rotate_left 2
          · intro w' hk; go_simp; try rfl
          · simp only [Act.put, List.setIfInBounds_toArray, List.set_cons_succ, List.set_cons_zero]; try rfl
          refine flowe_take 13 (v := ?_) (a' := ?_) hps rfl (by kernel_rfl) rfl ?_ ?_ ?_
          rotate_left 2
          · intro w' hk; go_simp; try rfl
          · simp only [Act.put, List.setIfInBounds_toArray, List.set_cons_succ, List.set_cons_zero]; try rfl
          refine flowe_one 14 hps rfl (by kernel_rfl) rfl (wp_next (fun K hK => ?_))
          have hc := hrow.cell 1
          simp only [List.getElem?_cons_succ, List.getElem?_cons_zero] at hc
          have hf := hrow.frozen 1
          go_simp
          have kp := (Keep.refl (fun k => k = p ∨ (Value.slice aW it.length cW).ownBlock = some k ∨ W.heap.size ≤ k) w10).setCell (p := ⟨p, 1, none⟩) (.inl (.inl rfl)) (.slice a10 (it.length + 1) c10)
          clear hc hf
          refine hK _ _ (flow_step kk ?_ ?_)
          · first | exact kp | exact Keep.refl _ _ | exact (Keep.refl _ _).alloc _
          clear kk hK; try clear kp
          intro kk
          refine flowe_done hps (by kernel_rfl) ?_
        all_goals skip
        rotate_left 1
        focus
          refine ⟨_, rfl, rfl, wp_next (fun K hK => ?_)⟩
          go_simp
          have hlit := Sl.lit w8 211 [.int .i64 I, .slice a8 512 c8] 1 2 rfl (by decide)
          replace hrow := hrow.alloc (.cells #[.int .i64 I, .slice a8 512 c8] 211 (0, 0))
          replace hown := hown.alloc (.cells #[.int .i64 I, .slice a8 512 c8] 211 (0, 0))
          replace ho8 := ho8.alloc (.cells #[.int .i64 I, .slice a8 512 c8] 211 (0, 0))
          refine hK _ _ (flow_step kk ?_ ?_)
          · first | exact kp | exact Keep.refl _ _ | exact (Keep.refl _ _).alloc _
          clear kk hK; try clear kp
          intro kk
          refine flowe_one 4 hps rfl (by kernel_rfl) rfl (wp_next (fun K hK => ?_))
          have hc := hrow.cell 1
          simp only [List.getElem?_cons_succ, List.getElem?_cons_zero] at hc
          have hcW : W.cell? ⟨p, 1, none⟩ = some (.slice aW it.length cW) := HW.out.row.cell 1
          go_simp
          clear hc hcW
          refine hK _ _ (flow_step kk ?_ ?_)
          · first | exact kp | exact Keep.refl _ _ | exact (Keep.refl _ _).alloc _
          clear kk hK; try clear kp
          intro kk
          refine flowe_one 11 hps rfl (by kernel_rfl) rfl (wp_next (fun K hK => ?_))
          refine app_at _ _ 45 rfl 0 211 _ 2 32 Try.underlying45 info_Wait rfl (by decide) (.slice aW it.length cW) it.length _ rfl hown _ 1 1 _ rfl hlit (by intro u hu; simp only [List.mem_cons, List.not_mem_nil, or_false] at hu; rcases hu with rfl | rfl <;> rfl) (by omega) (by omega) (Nat.zero_le _) ?_
          intro v10 w10 hown10 kp10 hbl10
          have kp := kp10.mono (G := fun k => k = p ∨ (Value.slice aW it.length cW).ownBlock = some k ∨ W.heap.size ≤ k) (fun k _ hk => .inr (.inl hk))
          have hbl : ∀ k, v10.ownBlock = some k → (Value.slice aW it.length cW).ownBlock = some k ∨ W.heap.size ≤ k := fun k hk => hbl10.elim (fun e => .inl (by rw [← e]; exact hk)) (fun e => .inr (by rw [e] at hk; cases hk; exact Nat.le_trans hs8 (by simp)))
          replace hrow := hrow.keep kp10 (own_row_ne hown hrow (by decide))
          replace ho8 := own_kept ho8 kp10 (fun k hk hk2 => own_type_ne ho8 hown (by decide) hk hk2)
          obtain ⟨a10, c10, rfl, _, _⟩ := Sl.of_owned hown10
          simp only [Act.put, List.setIfInBounds_toArray, List.set_cons_succ, List.set_cons_zero]
          refine hK _ _ (flow_step kk ?_ ?_)
          · first | exact kp | exact Keep.refl _ _ | exact (Keep.refl _ _).alloc _
          clear kk hK; try clear kp
          intro kk
          refine flowe_take 12 (v := ?_) (a' := ?_) hps rfl (by kernel_rfl) rfl ?_ ?_ ?_
          rotate_left 2
          · intro w' hk; go_simp; try rfl
          · simp only [Act.put, List.setIfInBounds_toArray, List.set_cons_succ, List.set_cons_zero]; try rfl
          refine flowe_take 13 (v := ?_) (a' := ?_) hps rfl (by kernel_rfl) rfl ?_ ?_ ?_
          rotate_left 2
          · intro w' hk; go_simp; try rfl
          · simp only [Act.put, List.setIfInBounds_toArray, List.set_cons_succ, List.set_cons_zero]; try rfl
          refine flowe_one 14 hps rfl (by kernel_rfl) rfl (wp_next (fun K hK => ?_))
          have hc := hrow.cell 1
          simp only [List.getElem?_cons_succ, List.getElem?_cons_zero] at hc
          have hf := hrow.frozen 1
          go_simp
          have kp := (Keep.refl (fun k => k = p ∨ (Value.slice aW it.length cW).ownBlock = some k ∨ W.heap.size ≤ k) w10).setCell (p := ⟨p, 1, none⟩) (.inl (.inl rfl)) (.slice a10 (it.length + 1) c10)
          clear hc hf
          refine hK _ _ (flow_step kk ?_ ?_)
          · first | exact kp | exact Keep.refl _ _ | exact (Keep.refl _ _).alloc _
          clear kk hK; try clear kp
          intro kk
          refine flowe_done hps (by kernel_rfl) ?_
        all_goals skip
        rotate_left 1
      all_goals skip
      rotate_left 2
    all_goals skip
    rotate_left 3
    all_goals
      have HD := Lib.hid hown10; have HK := Lib.hid kk; have HR := Lib.hid hrow; have H7 := Lib.hid ho8; have HN := Lib.hid hn8; have HBL := Lib.hid hbl
      clear hown10 kk hrow ho8 hn8 hbl hbl10
      go_wp2
      go_ret
      have hgd := HG.out
      have r := HR.out.set 1 (.slice a10 (it.length + 1) c10)
      have ks := (Keep.refl (· = p) w10).setCell (p := ⟨p, 1, none⟩) (.inl rfl) (.slice a10 (it.length + 1) c10)
      have hno : ∀ k, k < W.heap.size → ¬ k = p → ¬ (Value.slice aW it.length cW).ownBlock = some k → ¬ (k = p ∨ (Value.slice aW it.length cW).ownBlock = some k ∨ W.heap.size ≤ k) := by
        rintro k h1 h2 h3 (h | h | h)
        · exact h2 h
        · exact h3 h
        · omega
      have hn7r : ∀ k, (Value.slice a8 512 c8).ownBlock = some k → ¬ k = p := fun k hk e => own_row_ne H7.out HR.out (by decide) (e ▸ hk)
      have hLIF : (D.left - 1) = (if 0 < D.left then D.left - 1 else D.left) := HIF.out
      try rw [← hLIF]
      rw [← hLIF] at hgd
      refine ⟨rfl, fun k => F k ∨ W.heap.size ≤ k, ⟨_, _, ss, it ++ [⟨I, b, .slice a8 512 c8⟩], ⟨r, ?_, ?_, H.out.secs, ?_, ?_, ?_⟩, hgd, ?_⟩, ?_, fun k hk => hk.imp id fun h => Nat.le_trans hszW h⟩
      · exact own_kept HW.out.ownL HK.out fun k hk => hno k (own_block_lt HW.out.ownL hk).2 (fun e => own_row_ne HW.out.ownL HW.out.row (by decide) (e ▸ hk)) (own_type_ne HW.out.ownL HW.out.ownW (by decide) hk)
      · have := own_kept HD.out ks fun k hk e => own_row_ne HD.out HR.out (by decide) (e ▸ hk)
        refine ownsRow_map this (by simp) ?_
        simp [Wt.cells]
      · show D.wait ++ [(I, b)] = _
        rw [H.out.wait, List.map_append]; rfl
      · intro x hx
        have hi := HW.out.inner x hx
        exact own_kept hi HK.out fun k hk => hno k (own_block_lt hi hk).2 (fun e => own_row_ne hi HW.out.row (by decide) (e ▸ hk)) (own_type_ne hi HW.out.ownW (by decide) hk)
      · intro x hx
        rcases List.mem_append.1 hx with hx | hx
        · have hi := HW.out.items x hx
          exact own_kept hi HK.out fun k hk => hno k (own_block_lt hi hk).2 (fun e => own_row_ne hi HW.out.row (by decide) (e ▸ hk)) (own_type_ne hi HW.out.ownW (by decide) hk)
        · obtain rfl := List.mem_singleton.1 hx
          exact ownsRow_map (own_kept H7.out ks hn7r) rfl (by rfl)
      · rintro k (rfl | hk | hk | ⟨x, hx, hk⟩ | ⟨x, hx, hk⟩)
        · exact .inl (HF.out _ (.inl rfl))
        · exact .inl (HF.out _ (.inr (.inl hk)))
        · rcases HBL.out k hk with h | h
          · exact .inl (HF.out _ (.inr (.inr (.inl h))))
          · exact .inr h
        · exact .inl (HF.out _ (.inr (.inr (.inr (.inl ⟨x, hx, hk⟩)))))
        · rcases List.mem_append.1 hx with hx | hx
          · exact .inl (HF.out _ (.inr (.inr (.inr (.inr ⟨x, hx, hk⟩)))))
          · obtain rfl := List.mem_singleton.1 hx
            exact .inr (HN.out k hk)
      · refine KW.out.mono (fun k _ e => HF.out k (.inl e)) |>.trans ?_
        exact ⟨HK.out.os, HK.out.tape, HK.out.output, HK.out.size, fun k hk hn => HK.out.block k hk (hno k hk (fun e => hn (HF.out k (.inl e))) (fun e => hn (HF.out k (.inr (.inr (.inl e))))))⟩
  · have HIF := Lib.hid hL1
    rw [if_neg cl] at hL1
    subst hL1
    have HW := Lib.hid (show RdAt w p { D with left := D.left } _ _ ss it from H.out)
    have KW := Lib.hid (Keep.refl (· = p) w)
    go_wp2_with fail
    have hlW := H.out.row.lt
    have hszW := KW.out.size
    have HRW := HW.out.row
    have hpW : p < w.heap.size := HW.out.row.lt
    have hneB : off (· = p) a := Bs.off_row HB.out H.out.row (by have := H2.out; omega) (by simp [bv])
    have hB : Bs w a 512 c b := HB.out.keep KW.out hneB
    have hrow : Row w.drew p 47 [.slice aL ss.length cL, .slice aW it.length cW, .bool D.off, .int .i64 D.left] := HRW.drew
    have hown : w.drew.ownsRow 0 211 2 (.slice aW it.length cW) it.length (it.map Wt.cells).flatten := own_drew HW.out.ownW
    have hBd := hB.drew
    have hb16 : b.length ≤ 140737488355328 := by have := H2.out; omega
    have HB16 := Lib.hid hb16
    clear hB hneB HRW hb16
    refine flowe_begin (F := fun k => k = p ∨ (Value.slice aW it.length cW).ownBlock = some k ∨ w.heap.size ≤ k) hmixed 15 rfl (by repeat (first | exact ps_body | refine ps_then ?_ | refine ps_block ?_)) (fun hps => ?_)
    simp only [List.replicate]
    have kk := (Keep.refl (fun k => k = p ∨ (Value.slice aW it.length cW).ownBlock = some k ∨ w.heap.size ≤ k) (w)).drew
    refine flowe_take 0 (v := ?_) (a' := ?_) hps rfl (by kernel_rfl) rfl ?_ ?_ ?_
    rotate_left 2
    · intro w' hk; go_simp; try rfl
    · simp only [Act.put, List.setIfInBounds_toArray, List.set_cons_succ, List.set_cons_zero]; try rfl
    refine flowe_take 1 (v := ?_) (a' := ?_) hps rfl (by kernel_rfl) rfl ?_ ?_ ?_
    rotate_left 2
    · intro w' hk; go_simp; try rfl
    · simp only [Act.put, List.setIfInBounds_toArray, List.set_cons_succ, List.set_cons_zero]; try rfl
    refine flowe_take 2 (v := ?_) (a' := ?_) hps rfl (by kernel_rfl) rfl ?_ ?_ ?_
    rotate_left 2
    · intro w' hk; go_simp; try rfl
    · simp only [Act.put, List.setIfInBounds_toArray, List.set_cons_succ, List.set_cons_zero]; try rfl
    refine flowe_take 3 (v := ?_) (a' := ?_) hps rfl (by kernel_rfl) rfl ?_ ?_ ?_
    rotate_left 2
    · intro w' hk; go_simp; try rfl
    · simp only [Act.put, List.setIfInBounds_toArray, List.set_cons_succ, List.set_cons_zero]; try rfl
    refine flowe_take 5 (v := ?_) (a' := ?_) hps rfl (by kernel_rfl) rfl ?_ ?_ ?_
    rotate_left 2
    · intro w' hk; go_simp; try rfl
    · simp only [Act.put, List.setIfInBounds_toArray, List.set_cons_succ, List.set_cons_zero]; try rfl
    refine flowe_take 7 (v := ?_) (a' := ?_) hps rfl (by kernel_rfl) rfl ?_ ?_ ?_
    rotate_left 2
    · intro w' hk; go_simp; try rfl
    · simp only [Act.put, List.setIfInBounds_toArray, List.set_cons_succ, List.set_cons_zero]; try rfl
    refine flowe_any [4, 6] hps (by kernel_rfl) (by simp) (fun i hi => ?_)
    simp only [List.mem_cons, List.not_mem_nil, or_false] at hi
    rcases hi with rfl | rfl
    focus
      refine ⟨_, rfl, rfl, wp_next (fun K hK => ?_)⟩
      have hc := hrow.cell 1
      simp only [List.getElem?_cons_succ, List.getElem?_cons_zero] at hc
      have hcW : w.cell? ⟨p, 1, none⟩ = some (.slice aW it.length cW) := HW.out.row.cell 1
      go_simp
      clear hc hcW
      refine hK _ _ (flow_step kk ?_ ?_)
      · first | exact kp | exact Keep.refl _ _ | exact (Keep.refl _ _).alloc _
      clear kk hK; try clear kp
      intro kk
      refine flowe_one 6 hps rfl (by kernel_rfl) rfl (wp_next (fun K hK => ?_))
      go_simp
      have hemp := own_empty w.drew 5 1
      replace hrow := hrow.alloc (.cells #[] 5 (0, 0))
      replace hown := hown.alloc (.cells #[] 5 (0, 0))
      replace hBd := hBd.below ((Below.refl _ _).alloc (Nat.le_refl _) (.cells #[] 5 (0, 0)))
      refine hK _ _ (flow_step kk ?_ ?_)
      · first | exact kp | exact Keep.refl _ _ | exact (Keep.refl _ _).alloc _
      clear kk hK; try clear kp
      intro kk
      refine flowe_one 8 hps rfl (by kernel_rfl) rfl (wp_next (fun K hK => ?_))
      refine app_at _ _ 31 rfl w.drew.heap.size 5 (.int .u8 0) 1 1 Try.underlying31 info_u8 rfl (by decide) _ 0 [] rfl hemp _ _ _ _ rfl hBd (bv_one _) (by have := HB16.out; omega) (by omega) (by simp) ?_
      intro v8 w8 hown8 kp8 hbl8
      have hs8 : w.heap.size ≤ w8.heap.size := Nat.le_trans (by simp [World.drew]) kp8.size
      have kp := kp8.mono (G := fun k => k = p ∨ (Value.slice aW it.length cW).ownBlock = some k ∨ w.heap.size ≤ k) (fun k _ hk => .inr (.inr (by cases hk; exact Nat.le_refl _)))
      replace hrow := hrow.keep kp8 (fun e => by cases e; exact absurd hlW (by show ¬ w.heap.size < w.heap.size; omega))
      replace hown := own_kept hown kp8 (fun k hk e => by have h1 := (own_block_lt HW.out.ownW hk).2; cases e; exact absurd h1 (by show ¬ w.heap.size < w.heap.size; omega))
      rw [List.nil_append] at hown8
      have hn8 : ∀ k, v8.ownBlock = some k → w.heap.size ≤ k := fun k hk => (own_block_lt hown8 hk).1
      have ho8 := own_base hown8 (Nat.zero_le _)
      obtain ⟨a8, c8, rfl, _, _⟩ := Sl.of_owned hown8
      simp only [Nat.zero_add] at ho8 hn8
      simp only [Act.put, List.setIfInBounds_toArray, List.set_cons_succ, List.set_cons_zero, Nat.zero_add]
      clear hemp hBd
      refine hK _ _ (flow_step kk ?_ ?_)
      · first | exact kp | exact Keep.refl _ _ | exact (Keep.refl _ _).alloc _
      clear kk hK; try clear kp
      intro kk
      refine flowe_take 9 (v := ?_) (a' := ?_) hps rfl (by kernel_rfl) rfl ?_ ?_ ?_
      rotate_left 2
      · intro w' hk; go_simp; try rfl
      · simp only [Act.put, List.setIfInBounds_toArray, List.set_cons_succ, List.set_cons_zero]; try rfl
      refine flowe_one 10 hps rfl (by kernel_rfl) rfl (wp_next (fun K hK => ?_))
      go_simp
      have hlit := Sl.lit w8 211 [.int .i64 I, .slice a8 512 c8] 1 2 rfl (by decide)
      replace hrow := hrow.alloc (.cells #[.int .i64 I, .slice a8 512 c8] 211 (0, 0))
      replace hown := hown.alloc (.cells #[.int .i64 I, .slice a8 512 c8] 211 (0, 0))
      replace ho8 := ho8.alloc (.cells #[.int .i64 I, .slice a8 512 c8] 211 (0, 0))
      refine hK _ _ (flow_step kk ?_ ?_)
      · first | exact kp | exact Keep.refl _ _ | exact (Keep.refl _ _).alloc _
      clear kk hK; try clear kp
      intro kk
      refine flowe_one 11 hps rfl (by kernel_rfl) rfl (wp_next (fun K hK => ?_))
      refine app_at _ _ 45 rfl 0 211 _ 2 32 Try.underlying45 info_Wait rfl (by decide) (.slice aW it.length cW) it.length _ rfl hown _ 1 1 _ rfl hlit (by intro u hu; simp only [List.mem_cons, List.not_mem_nil, or_false] at hu; rcases hu with rfl | rfl <;> rfl) (by omega) (by omega) (Nat.zero_le _) ?_
      intro v10 w10 hown10 kp10 hbl10
      have kp := kp10.mono (G := fun k => k = p ∨ (Value.slice aW it.length cW).ownBlock = some k ∨ w.heap.size ≤ k) (fun k _ hk => .inr (.inl hk))
      have hbl : ∀ k, v10.ownBlock = some k → (Value.slice aW it.length cW).ownBlock = some k ∨ w.heap.size ≤ k := fun k hk => hbl10.elim (fun e => .inl (by rw [← e]; exact hk)) (fun e => .inr (by rw [e] at hk; cases hk; exact Nat.le_trans hs8 (by simp)))
      replace hrow := hrow.keep kp10 (own_row_ne hown hrow (by decide))
      replace ho8 := own_kept ho8 kp10 (fun k hk hk2 => own_type_ne ho8 hown (by decide) hk hk2)
      obtain ⟨a10, c10, rfl, _, _⟩ := Sl.of_owned hown10
      simp only [Act.put, List.setIfInBounds_toArray, List.set_cons_succ, List.set_cons_zero]
      refine hK _ _ (flow_step kk ?_ ?_)
      · first | exact kp | exact Keep.refl _ _ | exact (Keep.refl _ _).alloc _
      clear kk hK; try clear kp
      intro kk
      refine flowe_take 12 (v := ?_) (a' := ?_) hps rfl (by kernel_rfl) rfl ?_ ?_ ?_
      rotate_left 2
      · intro w' hk; go_simp; try rfl
      · simp only [Act.put, List.setIfInBounds_toArray, List.set_cons_succ, List.set_cons_zero]; try rfl
      refine flowe_take 13 (v := ?_) (a' := ?_) hps rfl (by kernel_rfl) rfl ?_ ?_ ?_
      rotate_left 2
      · intro w' hk; go_simp; try rfl
      · simp only [Act.put, List.setIfInBounds_toArray, List.set_cons_succ, List.set_cons_zero]; try rfl
      refine flowe_one 14 hps rfl (by kernel_rfl) rfl (wp_next (fun K hK => ?_))
      have hc := hrow.cell 1
      simp only [List.getElem?_cons_succ, List.getElem?_cons_zero] at hc
      have hf := hrow.frozen 1
      go_simp
      have kp := (Keep.refl (fun k => k = p ∨ (Value.slice aW it.length cW).ownBlock = some k ∨ w.heap.size ≤ k) w10).setCell (p := ⟨p, 1, none⟩) (.inl (.inl rfl)) (.slice a10 (it.length + 1) c10)
      clear hc hf
      refine hK _ _ (flow_step kk ?_ ?_)
      · first | exact kp | exact Keep.refl _ _ | exact (Keep.refl _ _).alloc _
      clear kk hK; try clear kp
      intro kk
      refine flowe_done hps (by kernel_rfl) ?_
    all_goals skip
    rotate_left 1
    focus
      refine ⟨_, rfl, rfl, wp_next (fun K hK => ?_)⟩
      go_simp
      have hemp := own_empty w.drew 5 1
      replace hrow := hrow.alloc (.cells #[] 5 (0, 0))
      replace hown := hown.alloc (.cells #[] 5 (0, 0))
      replace hBd := hBd.below ((Below.refl _ _).alloc (Nat.le_refl _) (.cells #[] 5 (0, 0)))
      refine hK _ _ (flow_step kk ?_ ?_)
      · first | exact kp | exact Keep.refl _ _ | exact (Keep.refl _ _).alloc _
      clear kk hK; try clear kp
      intro kk
      refine flowe_any [4, 8] hps (by kernel_rfl) (by simp) (fun i hi => ?_)
      simp only [List.mem_cons, List.not_mem_nil, or_false] at hi
      rcases hi with rfl | rfl
      focus
        refine ⟨_, rfl, rfl, wp_next (fun K hK => ?_)⟩
        have hc := hrow.cell 1
        simp only [List.getElem?_cons_succ, List.getElem?_cons_zero] at hc
        have hcW : w.cell? ⟨p, 1, none⟩ = some (.slice aW it.length cW) := HW.out.row.cell 1
        go_simp
        clear hc hcW
        refine hK _ _ (flow_step kk ?_ ?_)
        · first | exact kp | exact Keep.refl _ _ | exact (Keep.refl _ _).alloc _
        clear kk hK; try clear kp
        intro kk
        refine flowe_one 8 hps rfl (by kernel_rfl) rfl (wp_next (fun K hK => ?_))
        refine app_at _ _ 31 rfl w.drew.heap.size 5 (.int .u8 0) 1 1 Try.underlying31 info_u8 rfl (by decide) _ 0 [] rfl hemp _ _ _ _ rfl hBd (bv_one _) (by have := HB16.out; omega) (by omega) (by simp) ?_
        intro v8 w8 hown8 kp8 hbl8
        have hs8 : w.heap.size ≤ w8.heap.size := Nat.le_trans (by simp [World.drew]) kp8.size
        have kp := kp8.mono (G := fun k => k = p ∨ (Value.slice aW it.length cW).ownBlock = some k ∨ w.heap.size ≤ k) (fun k _ hk => .inr (.inr (by cases hk; exact Nat.le_refl _)))
        replace hrow := hrow.keep kp8 (fun e => by cases e; exact absurd hlW (by show ¬ w.heap.size < w.heap.size; omega))
        replace hown := own_kept hown kp8 (fun k hk e => by have h1 := (own_block_lt HW.out.ownW hk).2; cases e; exact absurd h1 (by show ¬ w.heap.size < w.heap.size; omega))
        rw [List.nil_append] at hown8
        have hn8 : ∀ k, v8.ownBlock = some k → w.heap.size ≤ k := fun k hk => (own_block_lt hown8 hk).1
        have ho8 := own_base hown8 (Nat.zero_le _)
        obtain ⟨a8, c8, rfl, _, _⟩ := Sl.of_owned hown8
        simp only [Nat.zero_add] at ho8 hn8
        simp only [Act.put, List.setIfInBounds_toArray, List.set_cons_succ, List.set_cons_zero, Nat.zero_add]
        clear hemp hBd
        refine hK _ _ (flow_step kk ?_ ?_)
        · first | exact kp | exact Keep.refl _ _ | exact (Keep.refl _ _).alloc _
        clear kk hK; try clear kp
        intro kk
        refine flowe_take 9 (v := ?_) (a' := ?_) hps rfl (by kernel_rfl) rfl ?_ ?_ ?_
        rotate_left 2
        · intro w' hk; go_simp; try rfl
        · simp only [Act.put, List.setIfInBounds_toArray, List.set_cons_succ, List.set_cons_zero]; try rfl
        refine flowe_one 10 hps rfl (by kernel_rfl) rfl (wp_next (fun K hK => ?_))
        go_simp
        have hlit := Sl.lit w8 211 [.int .i64 I, .slice a8 512 c8] 1 2 rfl (by decide)
        replace hrow := hrow.alloc (.cells #[.int .i64 I, .slice a8 512 c8] 211 (0, 0))
        replace hown := hown.alloc (.cells #[.int .i64 I, .slice a8 512 c8] 211 (0, 0))
        replace ho8 := ho8.alloc (.cells #[.int .i64 I, .slice a8 512 c8] 211 (0, 0))
        refine hK _ _ (flow_step kk ?_ ?_)
        · first | exact kp | exact Keep.refl _ _ | exact (Keep.refl _ _).alloc _
        clear kk hK; try clear kp
        intro kk
        refine flowe_one 11 hps rfl (by kernel_rfl) rfl (wp_next (fun K hK => ?_))
        refine app_at _ _ 45 rfl 0 211 _ 2 32 Try.underlying45 info_Wait rfl (by decide) (.slice aW it.length cW) it.length _ rfl hown _ 1 1 _ rfl hlit (by intro u hu; simp only [List.mem_cons, List.not_mem_nil, or_false] at hu; rcases hu with rfl | rfl <;> rfl) (by omega) (by omega) (Nat.zero_le _) ?_
        intro v10 w10 hown10 kp10 hbl10
        have kp := kp10.mono (G := fun k => k = p ∨ (Value.slice aW it.length cW).ownBlock = some k ∨ w.heap.size ≤ k) (fun k _ hk => .inr (.inl hk))
        have hbl : ∀ k, v10.ownBlock = some k → (Value.slice aW it.length cW).ownBlock = some k ∨ w.heap.size ≤ k := fun k hk => hbl10.elim (fun e => .inl (by rw [← e]; exact hk)) (fun e => .inr (by rw [e] at hk; cases hk; exact Nat.le_trans hs8 (by simp)))
        replace hrow := hrow.keep kp10 (own_row_ne hown hrow (by decide))
        replace ho8 := own_kept ho8 kp10 (fun k hk hk2 => own_type_ne ho8 hown (by decide) hk hk2)
        obtain ⟨a10, c10, rfl, _, _⟩ := Sl.of_owned hown10
        simp only [Act.put, List.setIfInBounds_toArray, List.set_cons_succ, List.set_cons_zero]
        refine hK _ _ (flow_step kk ?_ ?_)
        · first | exact kp | exact Keep.refl _ _ | exact (Keep.refl _ _).alloc _
        clear kk hK; try clear kp
        intro kk
        refine flowe_take 12 (v := ?_) (a' := ?_) hps rfl (by kernel_rfl) rfl ?_ ?_ ?_
        rotate_left 2
        · intro w' hk; go_simp; try rfl
        · simp only [Act.put, List.setIfInBounds_toArray, List.set_cons_succ, List.set_cons_zero]; try rfl
        refine flowe_take 13 (v := ?_) (a' := ?_) hps rfl (by kernel_rfl) rfl ?_ ?_ ?_
        rotate_left 2
        · intro w' hk; go_simp; try rfl
        · simp only [Act.put, List.setIfInBounds_toArray, List.set_cons_succ, List.set_cons_zero]; try rfl
        refine flowe_one 14 hps rfl (by kernel_rfl) rfl (wp_next (fun K hK => ?_))
        have hc := hrow.cell 1
        simp only [List.getElem?_cons_succ, List.getElem?_cons_zero] at hc
        have hf := hrow.frozen 1
        go_simp
        have kp := (Keep.refl (fun k => k = p ∨ (Value.slice aW it.length cW).ownBlock = some k ∨ w.heap.size ≤ k) w10).setCell (p := ⟨p, 1, none⟩) (.inl (.inl rfl)) (.slice a10 (it.length + 1) c10)
        clear hc hf
        refine hK _ _ (flow_step kk ?_ ?_)
        · first | exact kp | exact Keep.refl _ _ | exact (Keep.refl _ _).alloc _
        clear kk hK; try clear kp
        intro kk
        refine flowe_done hps (by kernel_rfl) ?_
      all_goals skip
      rotate_left 1
      focus
        refine ⟨_, rfl, rfl, wp_next (fun K hK => ?_)⟩
        refine app_at _ _ 31 rfl w.drew.heap.size 5 (.int .u8 0) 1 1 Try.underlying31 info_u8 rfl (by decide) _ 0 [] rfl hemp _ _ _ _ rfl hBd (bv_one _) (by have := HB16.out; omega) (by omega) (by simp) ?_
        intro v8 w8 hown8 kp8 hbl8
        have hs8 : w.heap.size ≤ w8.heap.size := Nat.le_trans (by simp [World.drew]) kp8.size
        have kp := kp8.mono (G := fun k => k = p ∨ (Value.slice aW it.length cW).ownBlock = some k ∨ w.heap.size ≤ k) (fun k _ hk => .inr (.inr (by cases hk; exact Nat.le_refl _)))
        replace hrow := hrow.keep kp8 (fun e => by cases e; exact absurd hlW (by show ¬ w.heap.size < w.heap.size; omega))
        replace hown := own_kept hown kp8 (fun k hk e => by have h1 := (own_block_lt HW.out.ownW hk).2; cases e; exact absurd h1 (by show ¬ w.heap.size < w.heap.size; omega))
        rw [List.nil_append] at hown8
        have hn8 : ∀ k, v8.ownBlock = some k → w.heap.size ≤ k := fun k hk => (own_block_lt hown8 hk).1
        have ho8 := own_base hown8 (Nat.zero_le _)
        obtain ⟨a8, c8, rfl, _, _⟩ := Sl.of_owned hown8
        simp only [Nat.zero_add] at ho8 hn8
        simp only [Act.put, List.setIfInBounds_toArray, List.set_cons_succ, List.set_cons_zero, Nat.zero_add]
        clear hemp hBd
        refine hK _ _ (flow_step kk ?_ ?_)
        · first | exact kp | exact Keep.refl _ _ | exact (Keep.refl _ _).alloc _
        clear kk hK; try clear kp
        intro kk
        refine flowe_take 9 (v := ?_) (a' := ?_) hps rfl (by kernel_rfl) rfl ?_ ?_ ?_
        rotate_left 2
        · intro w' hk; go_simp; try rfl
        · simp only [Act.put, List.setIfInBounds_toArray, List.set_cons_succ, List.set_cons_zero]; try rfl
        refine flowe_any [4, 10] hps (by kernel_rfl) (by simp) (fun i hi => ?_)
        simp only [List.mem_cons, List.not_mem_nil, or_false] at hi
        rcases hi with rfl | rfl
        focus
          refine ⟨_, rfl, rfl, wp_next (fun K hK => ?_)⟩
          have hc := hrow.cell 1
          simp only [List.getElem?_cons_succ, List.getElem?_cons_zero] at hc
          have hcW : w.cell? ⟨p, 1, none⟩ = some (.slice aW it.length cW) := HW.out.row.cell 1
          go_simp
          clear hc hcW
          refine hK _ _ (flow_step kk ?_ ?_)
          · first | exact kp | exact Keep.refl _ _ | exact (Keep.refl _ _).alloc _
          clear kk hK; try clear kp
          intro kk
          refine flowe_one 10 hps rfl (by kernel_rfl) rfl (wp_next (fun K hK => ?_))
          go_simp
          have hlit := Sl.lit w8 211 [.int .i64 I, .slice a8 512 c8] 1 2 rfl (by decide)
          replace hrow := hrow.alloc (.cells #[.int .i64 I, .slice a8 512 c8] 211 (0, 0))
          replace hown := hown.alloc (.cells #[.int .i64 I, .slice a8 512 c8] 211 (0, 0))
          replace ho8 := ho8.alloc (.cells #[.int .i64 I, .slice a8 512 c8] 211 (0, 0))
          refine hK _ _ (flow_step kk ?_ ?_)
          · first | exact kp | exact Keep.refl _ _ | exact (Keep.refl _ _).alloc _
          clear kk hK; try clear kp
          intro kk
          refine flowe_one 11 hps rfl (by kernel_rfl) rfl (wp_next (fun K hK => ?_))
          refine app_at _ _ 45 rfl 0 211 _ 2 32 Try.underlying45 info_Wait rfl (by decide) (.slice aW it.length cW) it.length _ rfl hown _ 1 1 _ rfl hlit (by intro u hu; simp only [List.mem_cons, List.not_mem_nil, or_false] at hu; rcases hu with rfl | rfl <;> rfl) (by omega) (by omega) (Nat.zero_le _) ?_
          intro v10 w10 hown10 kp10 hbl10
          have kp := kp10.mono (G := fun k => k = p ∨ (Value.slice aW it.length cW).ownBlock = some k ∨ w.heap.size ≤ k) (fun k _ hk => .inr (.inl hk))
          have hbl : ∀ k, v10.ownBlock = some k → (Value.slice aW it.length cW).ownBlock = some k ∨ w.heap.size ≤ k := fun k hk => hbl10.elim (fun e => .inl (by rw [← e]; exact hk)) (fun e => .inr (by rw [e] at hk; cases hk; exact Nat.le_trans hs8 (by simp)))
          replace hrow := hrow.keep kp10 (own_row_ne hown hrow (by decide))
          replace ho8 := own_kept ho8 kp10 (fun k hk hk2 => own_type_ne ho8 hown (by decide) hk hk2)
          obtain ⟨a10, c10, rfl, _, _⟩ := Sl.of_owned hown10
          simp only [Act.put, List.setIfInBounds_toArray, List.set_cons_succ, List.set_cons_zero]
          refine hK _ _ (flow_step kk ?_ ?_)
          · first | exact kp | exact Keep.refl _ _ | exact (Keep.refl _ _).alloc _
          clear kk hK; try clear kp
          intro kk
          refine flowe_take 12 (v := ?_) (a' := ?_) hps rfl (by kernel_rfl) rfl ?_ ?_ ?_
          rotate_left 2
          · intro w' hk; go_simp; try rfl
          · simp only [Act.put, List.setIfInBounds_toArray, List.set_cons_succ, List.set_cons_zero]; try rfl
          refine flowe_take 13 (v := ?_) (a' := ?_) hps rfl (by kernel_rfl) rfl ?_ ?_ ?_
          rotate_left 2
          · intro w' hk; go_simp; try rfl
          · simp only [Act.put, List.setIfInBounds_toArray, List.set_cons_succ, List.set_cons_zero]; try rfl
          refine flowe_one 14 hps rfl (by kernel_rfl) rfl (wp_next (fun K hK => ?_))
          have hc := hrow.cell 1
          simp only [List.getElem?_cons_succ, List.getElem?_cons_zero] at hc
          have hf := hrow.frozen 1
          go_simp
          have kp := (Keep.refl (fun k => k = p ∨ (Value.slice aW it.length cW).ownBlock = some k ∨ w.heap.size ≤ k) w10).setCell (p := ⟨p, 1, none⟩) (.inl (.inl rfl)) (.slice a10 (it.length + 1) c10)
          clear hc hf
          refine hK _ _ (flow_step kk ?_ ?_)
          · first | exact kp | exact Keep.refl _ _ | exact (Keep.refl _ _).alloc _
          clear kk hK; try clear kp
          intro kk
          refine flowe_done hps (by kernel_rfl) ?_
        all_goals skip
        rotate_left 1
        focus
          refine ⟨_, rfl, rfl, wp_next (fun K hK => ?_)⟩
          go_simp
          have hlit := Sl.lit w8 211 [.int .i64 I, .slice a8 512 c8] 1 2 rfl (by decide)
          replace hrow := hrow.alloc (.cells #[.int .i64 I, .slice a8 512 c8] 211 (0, 0))
          replace hown := hown.alloc (.cells #[.int .i64 I, .slice a8 512 c8] 211 (0, 0))
          replace ho8 := ho8.alloc (.cells #[.int .i64 I, .slice a8 512 c8] 211 (0, 0))
          refine hK _ _ (flow_step kk ?_ ?_)
          · first | exact kp | exact Keep.refl _ _ | exact (Keep.refl _ _).alloc _
          clear kk hK; try clear kp
          intro kk
          refine flowe_one 4 hps rfl (by kernel_rfl) rfl (wp_next (fun K hK => ?_))
          have hc := hrow.cell 1
          simp only [List.getElem?_cons_succ, List.getElem?_cons_zero] at hc
          have hcW : w.cell? ⟨p, 1, none⟩ = some (.slice aW it.length cW) := HW.out.row.cell 1
          go_simp
          clear hc hcW
          refine hK _ _ (flow_step kk ?_ ?_)
          · first | exact kp | exact Keep.refl _ _ | exact (Keep.refl _ _).alloc _
          clear kk hK; try clear kp
          intro kk
          refine flowe_one 11 hps rfl (by kernel_rfl) rfl (wp_next (fun K hK => ?_))
          refine app_at _ _ 45 rfl 0 211 _ 2 32 Try.underlying45 info_Wait rfl (by decide) (.slice aW it.length cW) it.length _ rfl hown _ 1 1 _ rfl hlit (by intro u hu; simp only [List.mem_cons, List.not_mem_nil, or_false] at hu; rcases hu with rfl | rfl <;> rfl) (by omega) (by omega) (Nat.zero_le _) ?_
          intro v10 w10 hown10 kp10 hbl10
          have kp := kp10.mono (G := fun k => k = p ∨ (Value.slice aW it.length cW).ownBlock = some k ∨ w.heap.size ≤ k) (fun k _ hk => .inr (.inl hk))
          have hbl : ∀ k, v10.ownBlock = some k → (Value.slice aW it.length cW).ownBlock = some k ∨ w.heap.size ≤ k := fun k hk => hbl10.elim (fun e => .inl (by rw [← e]; exact hk)) (fun e => .inr (by rw [e] at hk; cases hk; exact Nat.le_trans hs8 (by simp)))
          replace hrow := hrow.keep kp10 (own_row_ne hown hrow (by decide))
          replace ho8 := own_kept ho8 kp10 (fun k hk hk2 => own_type_ne ho8 hown (by decide) hk hk2)
          obtain ⟨a10, c10, rfl, _, _⟩ := Sl.of_owned hown10
          simp only [Act.put, List.setIfInBounds_toArray, List.set_cons_succ, List.set_cons_zero]
          refine hK _ _ (flow_step kk ?_ ?_)
          · first | exact kp | exact Keep.refl _ _ | exact (Keep.refl _ _).alloc _
          clear kk hK; try clear kp
          intro kk
          refine flowe_take 12 (v := ?_) (a' := ?_) hps rfl (by kernel_rfl) rfl ?_ ?_ ?_
          rotate_left 2
          · intro w' hk; go_simp; try rfl
          · simp only [Act.put, List.setIfInBounds_toArray, List.set_cons_succ, List.set_cons_zero]; try rfl
          refine flowe_take 13 (v := ?_) (a' := ?_) hps rfl (by kernel_rfl) rfl ?_ ?_ ?_
          rotate_left 2
          · intro w' hk; go_simp; try rfl
          · simp only [Act.put, List.setIfInBounds_toArray, List.set_cons_succ, List.set_cons_zero]; try rfl
          refine flowe_one 14 hps rfl (by kernel_rfl) rfl (wp_next (fun K hK => ?_))
          have hc := hrow.cell 1
          simp only [List.getElem?_cons_succ, List.getElem?_cons_zero] at hc
          have hf := hrow.frozen 1
          go_simp
          have kp := (Keep.refl (fun k => k = p ∨ (Value.slice aW it.length cW).ownBlock = some k ∨ w.heap.size ≤ k) w10).setCell (p := ⟨p, 1, none⟩) (.inl (.inl rfl)) (.slice a10 (it.length + 1) c10)
          clear hc hf
          refine hK _ _ (flow_step kk ?_ ?_)
          · first | exact kp | exact Keep.refl _ _ | exact (Keep.refl _ _).alloc _
          clear kk hK; try clear kp
          intro kk
          refine flowe_done hps (by kernel_rfl) ?_
        all_goals skip
        rotate_left 1
      all_goals skip
      rotate_left 2
    all_goals skip
    rotate_left 3
    all_goals
      have HD := Lib.hid hown10; have HK := Lib.hid kk; have HR := Lib.hid hrow; have H7 := Lib.hid ho8; have HN := Lib.hid hn8; have HBL := Lib.hid hbl
      clear hown10 kk hrow ho8 hn8 hbl hbl10
      go_wp2
      go_ret
      have hgd := HG.out
      have r := HR.out.set 1 (.slice a10 (it.length + 1) c10)
      have ks := (Keep.refl (· = p) w10).setCell (p := ⟨p, 1, none⟩) (.inl rfl) (.slice a10 (it.length + 1) c10)
      have hno : ∀ k, k < w.heap.size → ¬ k = p → ¬ (Value.slice aW it.length cW).ownBlock = some k → ¬ (k = p ∨ (Value.slice aW it.length cW).ownBlock = some k ∨ w.heap.size ≤ k) := by
        rintro k h1 h2 h3 (h | h | h)
        · exact h2 h
        · exact h3 h
        · omega
      have hn7r : ∀ k, (Value.slice a8 512 c8).ownBlock = some k → ¬ k = p := fun k hk e => own_row_ne H7.out HR.out (by decide) (e ▸ hk)
      have hLIF : D.left = (if 0 < D.left then D.left - 1 else D.left) := HIF.out
      try rw [← hLIF]
      rw [← hLIF] at hgd
      refine ⟨rfl, fun k => F k ∨ w.heap.size ≤ k, ⟨_, _, ss, it ++ [⟨I, b, .slice a8 512 c8⟩], ⟨r, ?_, ?_, H.out.secs, ?_, ?_, ?_⟩, hgd, ?_⟩, ?_, fun k hk => hk.imp id fun h => Nat.le_trans hszW h⟩
      · exact own_kept HW.out.ownL HK.out fun k hk => hno k (own_block_lt HW.out.ownL hk).2 (fun e => own_row_ne HW.out.ownL HW.out.row (by decide) (e ▸ hk)) (own_type_ne HW.out.ownL HW.out.ownW (by decide) hk)
      · have := own_kept HD.out ks fun k hk e => own_row_ne HD.out HR.out (by decide) (e ▸ hk)
        refine ownsRow_map this (by simp) ?_
        simp [Wt.cells]
      · show D.wait ++ [(I, b)] = _
        rw [H.out.wait, List.map_append]; rfl
      · intro x hx
        have hi := HW.out.inner x hx
        exact own_kept hi HK.out fun k hk => hno k (own_block_lt hi hk).2 (fun e => own_row_ne hi HW.out.row (by decide) (e ▸ hk)) (own_type_ne hi HW.out.ownW (by decide) hk)
      · intro x hx
        rcases List.mem_append.1 hx with hx | hx
        · have hi := HW.out.items x hx
          exact own_kept hi HK.out fun k hk => hno k (own_block_lt hi hk).2 (fun e => own_row_ne hi HW.out.row (by decide) (e ▸ hk)) (own_type_ne hi HW.out.ownW (by decide) hk)
        · obtain rfl := List.mem_singleton.1 hx
          exact ownsRow_map (own_kept H7.out ks hn7r) rfl (by rfl)
      · rintro k (rfl | hk | hk | ⟨x, hx, hk⟩ | ⟨x, hx, hk⟩)
        · exact .inl (HF.out _ (.inl rfl))
        · exact .inl (HF.out _ (.inr (.inl hk)))
        · rcases HBL.out k hk with h | h
          · exact .inl (HF.out _ (.inr (.inr (.inl h))))
          · exact .inr h
        · exact .inl (HF.out _ (.inr (.inr (.inr (.inl ⟨x, hx, hk⟩)))))
        · rcases List.mem_append.1 hx with hx | hx
          · exact .inl (HF.out _ (.inr (.inr (.inr (.inr ⟨x, hx, hk⟩)))))
          · obtain rfl := List.mem_singleton.1 hx
            exact .inr (HN.out k hk)
      · refine KW.out.mono (fun k _ e => HF.out k (.inl e)) |>.trans ?_
        exact ⟨HK.out.os, HK.out.tape, HK.out.output, HK.out.size, fun k hk hn => HK.out.block k hk (hno k hk (fun e => hn (HF.out k (.inl e))) (fun e => hn (HF.out k (.inr (.inr (.inl e))))))⟩
end Go.Proofs.Ytjijniillehfoaa
