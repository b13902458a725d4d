import Derived.Test.YtjijniillehfoaaDisk1
import Derived.Test.YtjijniillehfoaaGrowA
namespace Go.Proofs.Ytjijniillehfoaa
open Go Go.RowKit Go.Own
set_option linter.unusedVariables false
set_option maxRecDepth 100000
theorem disk_Write_arg (w : World) (p : Nat) (D : Dk) (F : Nat → Prop) (h : DkRep w p D F) (i : Int) (a : Option Addr) (n c : Nat) (b : List UInt8) (hb : Bs w a n c b) (hf : ¬ (0 ≤ i ∧ i < D.L.length ∧ b.length = 512)) :
    Calls Try.prog 28 #[.pointer (some ⟨p, 0, none⟩), .int .i64 i, .slice a n c] w fun e w' => e = .returned (.iface 183 (.int .i64 1)) ∧ w = w' := by
  have hn := hb.len
  have hc := Sl.cap hb; have hr := Sl.room hb
  subst hn
  clear hb
  have k := disk_Sectors w p D F h
  have K := Lib.hid k
  clear k h
  by_cases c1 : i < 0
  · clear hf
    go_enter Try.func28, Try.ntmps28
    go_wp2
    go_ret
    exact ⟨rfl, rfl⟩
  · by_cases c2 : (D.L.length : Int) ≤ i
    · clear hf
      go_enter Try.func28, Try.ntmps28
      go_wp2_with fail
      refine K.out.mono ?_
      rintro e w' ⟨rfl, rfl⟩
      go_wp2
      go_ret
      exact ⟨rfl, rfl⟩
    · have e1 : ((b.length : Int) != 512) = true := by rw [bne_iff_ne]; omega
      clear hf
      go_enter Try.func28, Try.ntmps28
      go_wp2_with fail
      refine K.out.mono ?_
      rintro e w' ⟨rfl, rfl⟩
      go_wp2
      go_ret
      exact ⟨rfl, rfl⟩
/-- The disk is D' now; only blocks of F, and new ones, are its own. -/
def DkTo (p : Nat) (D' : Dk) (F : Nat → Prop) (w w' : World) : Prop := ∃ F', DkRep w' p D' F' ∧ Keep F w w' ∧ ∀ k, F' k → F k ∨ w.heap.size ≤ k
theorem DkAt.row2 {w w' : World} {p : Nat} {D D' : Dk} {vb vw : Value} {it : List Wt} (h : DkAt w p D vb vw it) (hr : Row w' p 189 [vb, vw, .bool D'.off, .int .i64 D'.left]) (hk : Keep (· = p) w w') (hL : D'.L = D.L) (hw : D'.wait = D.wait) (hg : D'.Good) : DkAt w' p D' vb vw it := by
  have n1 : ∀ g, vb.ownBlock = some g → ¬ g = p := fun g hg e => own_row_ne h.ownb h.row (by decide) (e ▸ hg)
  have n2 : ∀ g, vw.ownBlock = some g → ¬ g = p := fun g hg e => own_row_ne h.ownw h.row (by decide) (e ▸ hg)
  refine ⟨hr, by rw [hL]; exact own_kept h.ownb hk n1, own_kept h.ownw hk n2, by rw [hw]; exact h.wait, fun x hx => ⟨own_kept (h.items x hx).1 hk fun g hg e => own_row_ne (h.items x hx).1 h.row (by decide) (e ▸ hg), (h.items x hx).2⟩, hg⟩
theorem disk_Write_down (w : World) (p : Nat) (D : Dk) (F : Nat → Prop) (h : DkRep w p D F) (i : Int) (a : Option Addr) (n c : Nat) (b : List UInt8) (hb : Bs w a n c b) (h0 : 0 ≤ i) (h1 : i < D.L.length) (h2 : b.length = 512) (hd : D.off = true ∨ D.left = 0) :
    Calls Try.prog 28 #[.pointer (some ⟨p, 0, none⟩), .int .i64 i, .slice a n c] w fun e w' => e = .returned (.iface 183 (.int .i64 6)) ∧ DkTo p { D with off := true } F w w' := by
  have hn := hb.len
  rw [h2] at hn
  subst hn
  clear hb h2
  have k := disk_Sectors w p D F h
  have K := Lib.hid k
  obtain ⟨vb, vw, it, h, hF⟩ := h
  obtain ⟨g, c0, rfl, _, _, _⟩ := h.formb
  obtain ⟨a1, c1, rfl, _, _⟩ := h.formw
  have q2 : w.cell? ⟨p, 2, none⟩ = some (.bool D.off) := h.row.cell 2
  have q3 : w.cell? ⟨p, 3, none⟩ = some (.int .i64 D.left) := h.row.cell 3
  have f2 := h.row.frozen 2
  have H := Lib.hid h; have HF := Lib.hid hF
  clear k h hF
  cases ho : D.off with
  | true =>
    rw [ho] at q2
    have HO := Lib.hid ho
    clear ho hd
    go_enter Try.func28, Try.ntmps28
    go_wp2_with fail
    refine K.out.mono ?_
    rintro e w' ⟨rfl, rfl⟩
    go_wp2
    go_ret
    refine ⟨rfl, F, ⟨_, _, it, ?_, HF.out⟩, Keep.refl _ _, fun k hk => .inl hk⟩
    have hD : ({ D with off := true } : Dk) = D := by rw [← HO.out]
    rw [hD]; exact H.out
  | false =>
    have hl : D.left = 0 := by rcases hd with h | h; rw [ho] at h; cases h; exact h
    rw [ho] at q2
    rw [hl] at q3
    clear hd
    have HO := Lib.hid ho; have HL := Lib.hid hl
    clear ho hl
    go_enter Try.func28, Try.ntmps28
    go_wp2_with fail
    refine K.out.mono ?_
    rintro e w' ⟨rfl, rfl⟩
    go_wp2
    go_ret
    have r := H.out.row.set 2 (.bool true)
    have kp := (Keep.refl (· = p) w).setCell (p := ⟨p, 2, none⟩) (.inl rfl) (.bool true)
    have hg := H.out.good
    refine ⟨rfl, F, ⟨_, _, it, H.out.row2 (D' := { D with off := true }) r kp rfl rfl ⟨hg.secs, hg.many, hg.waits, hg.left⟩, HF.out⟩, kp.mono fun k _ e => ?_, fun k hk => .inl hk⟩
    exact HF.out k (.inl e)
theorem disk_Cut (w : World) (p : Nat) (D : Dk) (F : Nat → Prop) (h : DkRep w p D F) (n : Int) (h0 : -9223372036854775808 ≤ n) (h1 : n ≤ 9223372036854775807) :
    Calls Try.prog 49 #[.pointer (some ⟨p, 0, none⟩), .int .i64 n] w fun e w' => e = .returned (.tuple #[]) ∧ DkTo p (D.cut n) F w w' := by
  obtain ⟨vb, vw, it, h, hF⟩ := h
  have q3 : w.cell? ⟨p, 3, none⟩ = some (.int .i64 D.left) := h.row.cell 3
  have f3 := h.row.frozen 3
  have H := Lib.hid h; have HF := Lib.hid hF
  clear h hF
  go_enter Try.func49, Try.ntmps49
  have fin : ∀ x : Int, max n (-1) = x → DkTo p (D.cut n) F w (w.setCell ⟨p, 3, none⟩ (.int .i64 x)) := fun x hx => by
    subst hx
    have r := H.out.row.set 3 (.int .i64 (max n (-1)))
    have kp := (Keep.refl (· = p) w).setCell (p := ⟨p, 3, none⟩) (.inl rfl) (.int .i64 (max n (-1)))
    exact ⟨F, ⟨_, _, it, H.out.row2 (D' := D.cut n) r kp rfl rfl (H.out.good.cut n h1), HF.out⟩, kp.mono fun k _ e => HF.out k (.inl e), fun k hk => .inl hk⟩
  have FIN := Lib.hid fin
  clear fin
  go_wp2
  · go_end0
    exact ⟨rfl, FIN.out _ (by omega)⟩
  · go_end0
    exact ⟨rfl, FIN.out _ (by omega)⟩
theorem Bs.off_row {w : World} {a : Option Addr} {n c p : Nat} {e : TypeId} {l : List UInt8} {cs : List Value} (h : Bs w a n c l) (hr : Row w p e cs) (hn : 0 < l.length) (hcs : ∀ v ∈ cs, ∀ x : UInt8, v ≠ bv x) : off (· = p) a := by
  intro q hq he
  obtain ⟨b, o, e1, hc⟩ := h.at 0 hn
  rw [e1] at hq
  cases hq
  have he : b = p := he
  subst he
  rw [hr.cell] at hc
  exact hcs _ (List.mem_of_getElem? hc) l[0] rfl
theorem info_wait : Info Try.prog 192 (.agg #[.int .i64 0, .slice none 0 0]) 2 32 := by unfold Info; kernel_rfl
set_option maxHeartbeats 4000000 in
theorem disk_Write_ok (w : World) (p : Nat) (D : Dk) (F : Nat → Prop) (h : DkRep w p D F) (i : Int) (I : Nat) (hI : i = I) (a : Option Addr) (n c : Nat) (b : List UInt8) (hb : Bs w a n c b) (h1 : I < D.L.length) (h2 : b.length = 512) (ho : D.off = false) (hl : D.left ≠ 0) (hmany : D.wait.length ≤ 1000000) :
    Calls Try.prog 28 #[.pointer (some ⟨p, 0, none⟩), .int .i64 i, .slice a n c] w fun e w' => e = .returned .nilIface ∧ DkTo p { D with left := if 0 < D.left then D.left - 1 else D.left, wait := D.wait ++ [(I, b)] } F w w' := by
  subst hI
  have hn := hb.len
  rw [h2] at hn
  subst hn
  have k := disk_Sectors w p D F h
  have K := Lib.hid k
  obtain ⟨vb, vw, it, h, hF⟩ := h
  obtain ⟨g, c0, rfl, _, _, _⟩ := h.formb
  obtain ⟨a1, c1, rfl, _, _⟩ := h.formw
  have hit : it.length ≤ 1000000 := by have := congrArg List.length h.wait; rw [List.length_map] at this; omega
  have q2 : w.cell? ⟨p, 2, none⟩ = some (.bool D.off) := h.row.cell 2
  have q3 : w.cell? ⟨p, 3, none⟩ = some (.int .i64 D.left) := h.row.cell 3
  have f3 := h.row.frozen 3
  rw [ho] at q2
  have hg := h.good.left
  have e0 : (D.left == 0) = false := by rw [beq_eq_false_iff_ne]; exact hl
  have HB := Lib.hid hb; have H := Lib.hid h; have HF := Lib.hid hF; have H2 := Lib.hid h2; have HO := Lib.hid ho
  clear k h hF hb h2 ho hl
  go_enter Try.func28, Try.ntmps28
  go_wp2_with fail
  refine K.out.mono ?_
  rintro e w' ⟨rfl, rfl⟩
  have hput : ∃ (L1 : Int), L1 = (if 0 < D.left then D.left - 1 else D.left) := ⟨_, rfl⟩
  obtain ⟨L1, hL1⟩ := hput
  by_cases cl : 0 < D.left
  · rw [if_pos cl] at hL1
    have r := H.out.row.set 3 (.int .i64 L1)
    have kp := (Keep.refl (· = p) w).setCell (p := ⟨p, 3, none⟩) (.inl rfl) (.int .i64 L1)
    have hgd := H.out.good
    have HW := Lib.hid (H.out.row2 (D' := { D with left := L1 }) r kp rfl rfl ⟨hgd.secs, hgd.many, hgd.waits, by show -1 ≤ L1 ∧ L1 ≤ _; omega⟩)
    have KW := Lib.hid kp
    clear r kp hgd
    subst hL1
    go_wp2_with fail
    generalize w.setCell ⟨p, 3, none⟩ (.int .i64 (D.left - 1)) = W at HW KW ⊢
    have HRW := HW.out.row
    have hneB : off (· = p) a := Bs.off_row HB.out H.out.row (by have := H2.out; omega) (by simp [bv])
    have hB : Bs W a 512 c b := HB.out.keep KW.out hneB
    have hrow : Row W.drew p 189 [.slice (some ⟨g, 0, none⟩) (512 * D.L.length) c0, .slice a1 it.length c1, .bool D.off, .int .i64 (D.left - 1)] := HRW.drew
    have hown : W.drew.ownsRow 0 192 2 (.slice a1 it.length c1) it.length (it.map Wt.cells).flatten := own_drew HW.out.ownw
    have hBd := hB.drew
    have hb16 : b.length ≤ 140737488355328 := by have := H2.out; omega
    have HB16 := Lib.hid hb16
    clear hB hneB HRW hb16
    refine flowe_begin (F := fun k => k = p ∨ (Value.slice a1 it.length c1).ownBlock = some k ∨ W.heap.size ≤ k) hmixed 14 rfl (by repeat (first | exact ps_body | refine ps_then ?_ | refine ps_block ?_)) (fun hps => ?_)
    simp only [List.replicate]
    have kk := (Keep.refl (fun k => k = p ∨ (Value.slice a1 it.length c1).ownBlock = some k ∨ W.heap.size ≤ k) (W)).drew
    refine flowe_take 0 (v := ?_) (a' := ?_) hps rfl (by kernel_rfl) rfl ?_ ?_ ?_
    rotate_left 2
    · intro w' hk; go_simp; try rfl
    · simp only [Act.put, List.setIfInBounds_toArray, List.set_cons_succ, List.set_cons_zero]; try rfl
    refine flowe_take 1 (v := ?_) (a' := ?_) hps rfl (by kernel_rfl) rfl ?_ ?_ ?_
    rotate_left 2
    · intro w' hk; go_simp; try rfl
    · simp only [Act.put, List.setIfInBounds_toArray, List.set_cons_succ, List.set_cons_zero]; try rfl
    refine flowe_take 2 (v := ?_) (a' := ?_) hps rfl (by kernel_rfl) rfl ?_ ?_ ?_
    rotate_left 2
    · intro w' hk; go_simp; try rfl
    · simp only [Act.put, List.setIfInBounds_toArray, List.set_cons_succ, List.set_cons_zero]; try rfl
    refine flowe_take 3 (v := ?_) (a' := ?_) hps rfl (by kernel_rfl) rfl ?_ ?_ ?_
    rotate_left 2
    · intro w' hk; go_simp; try rfl
    · simp only [Act.put, List.setIfInBounds_toArray, List.set_cons_succ, List.set_cons_zero]; try rfl
    refine flowe_take 5 (v := ?_) (a' := ?_) hps rfl (by kernel_rfl) rfl ?_ ?_ ?_
    rotate_left 2
    · intro w' hk; go_simp; try rfl
    · simp only [Act.put, List.setIfInBounds_toArray, List.set_cons_succ, List.set_cons_zero]; try rfl
    refine flowe_take 6 (v := ?_) (a' := ?_) hps rfl (by kernel_rfl) rfl ?_ ?_ ?_
    rotate_left 2
    · intro w' hk; go_simp; try rfl
    · simp only [Act.put, List.setIfInBounds_toArray, List.set_cons_succ, List.set_cons_zero]; try rfl
    refine flowe_any [4, 7] hps (by kernel_rfl) (by simp) (fun i hi => ?_)
    simp only [List.mem_cons, List.not_mem_nil, or_false] at hi
    rcases hi with rfl | rfl
    focus
      refine ⟨_, rfl, rfl, wp_next (fun K hK => ?_)⟩
      have hc := hrow.cell 1
      simp only [List.getElem?_cons_succ, List.getElem?_cons_zero] at hc
      go_simp
      clear hc
      refine hK _ _ (flow_step kk ?_ ?_)
      · first | exact kp | exact Keep.refl _ _ | exact (Keep.refl _ _).alloc _
      clear kk hK; try clear kp
      intro kk
      refine flowe_one 7 hps rfl (by kernel_rfl) rfl (wp_next (fun K hK => ?_))
      go_simp
      go_at_call 130
      refine (slices_Clone _ _ _ _ _ hBd HB16.out).mono ?_
      rintro e w7 ⟨v7, rfl, ho7, hb7⟩
      rw [H2.out] at ho7
      have kp := Keep.of_below (F := fun k => k = p ∨ (Value.slice a1 it.length c1).ownBlock = some k ∨ W.heap.size ≤ k) hb7
      obtain ⟨a7, c7, rfl, _, _⟩ := Sl.of_owned ho7
      have hn7 : ∀ k, (Value.slice a7 512 c7).ownBlock = some k → W.heap.size ≤ k := fun k hk => (own_block_lt ho7 hk).1
      replace hrow := hrow.below hb7
      replace hown := own_below hown hb7
      have ho7 := own_base ho7 (Nat.zero_le _)
      have hs7 := hb7.size
      clear hb7
      refine hK _ _ (flow_step kk ?_ ?_)
      · first | exact kp | exact Keep.refl _ _ | exact (Keep.refl _ _).alloc _
      clear kk hK; try clear kp
      intro kk
      refine flowe_take 8 (v := ?_) (a' := ?_) hps rfl (by kernel_rfl) rfl ?_ ?_ ?_
      rotate_left 2
      · intro w' hk; go_simp; try rfl
      · simp only [Act.put, List.setIfInBounds_toArray, List.set_cons_succ, List.set_cons_zero]; try rfl
      refine flowe_one 9 hps rfl (by kernel_rfl) rfl (wp_next (fun K hK => ?_))
      go_simp
      have hlit := Sl.lit w7 192 [.int .i64 I, .slice a7 512 c7] 1 2 rfl (by decide)
      replace hrow := hrow.alloc (.cells #[.int .i64 I, .slice a7 512 c7] 192 (0, 0))
      replace hown := hown.alloc (.cells #[.int .i64 I, .slice a7 512 c7] 192 (0, 0))
      replace ho7 := ho7.alloc (.cells #[.int .i64 I, .slice a7 512 c7] 192 (0, 0))
      refine hK _ _ (flow_step kk ?_ ?_)
      · first | exact kp | exact Keep.refl _ _ | exact (Keep.refl _ _).alloc _
      clear kk hK; try clear kp
      intro kk
      refine flowe_one 10 hps rfl (by kernel_rfl) rfl (wp_next (fun K hK => ?_))
      refine app_at _ _ 187 rfl 0 192 _ 2 32 Try.underlying187 info_wait rfl (by decide) (.slice a1 it.length c1) it.length _ rfl hown _ 1 1 _ rfl hlit (by intro u hu; simp only [List.mem_cons, List.not_mem_nil, or_false] at hu; rcases hu with rfl | rfl <;> rfl) (by omega) (by omega) (Nat.zero_le _) ?_
      intro v10 w10 hown10 kp10 hbl10
      have kp := kp10.mono (G := fun k => k = p ∨ (Value.slice a1 it.length c1).ownBlock = some k ∨ W.heap.size ≤ k) (fun k _ hk => .inr (.inl hk))
      have hrow0 := hrow
      replace hrow := hrow.keep kp10 (own_row_ne hown hrow (by decide))
      replace ho7 := own_kept ho7 kp10 (fun k hk hk2 => own_type_ne ho7 hown (by decide) hk hk2)
      obtain ⟨a10, c10, rfl, _, _⟩ := Sl.of_owned hown10
      simp only [Act.put, List.setIfInBounds_toArray, List.set_cons_succ, List.set_cons_zero]
      refine hK _ _ (flow_step kk ?_ ?_)
      · first | exact kp | exact Keep.refl _ _ | exact (Keep.refl _ _).alloc _
      clear kk hK; try clear kp
      intro kk
      refine flowe_take 11 (v := ?_) (a' := ?_) hps rfl (by kernel_rfl) rfl ?_ ?_ ?_
      rotate_left 2
      · intro w' hk; go_simp; try rfl
      · simp only [Act.put, List.setIfInBounds_toArray, List.set_cons_succ, List.set_cons_zero]; try rfl
      refine flowe_take 12 (v := ?_) (a' := ?_) hps rfl (by kernel_rfl) rfl ?_ ?_ ?_
      rotate_left 2
      · intro w' hk; go_simp; try rfl
      · simp only [Act.put, List.setIfInBounds_toArray, List.set_cons_succ, List.set_cons_zero]; try rfl
      refine flowe_one 13 hps rfl (by kernel_rfl) rfl (wp_next (fun K hK => ?_))
      have hc := hrow.cell 1
      simp only [List.getElem?_cons_succ, List.getElem?_cons_zero] at hc
      have hf := hrow.frozen 1
      go_simp
      have kp := (Keep.refl (fun k => k = p ∨ (Value.slice a1 it.length c1).ownBlock = some k ∨ W.heap.size ≤ k) w10).setCell (p := ⟨p, 1, none⟩) (.inl (.inl rfl)) (.slice a10 (it.length + 1) c10)
      clear hc hf
      refine hK _ _ (flow_step kk ?_ ?_)
      · first | exact kp | exact Keep.refl _ _ | exact (Keep.refl _ _).alloc _
      clear kk hK; try clear kp
      intro kk
      refine flowe_done hps (by kernel_rfl) ?_
    all_goals skip
    rotate_left 1
    focus
      refine ⟨_, rfl, rfl, wp_next (fun K hK => ?_)⟩
      go_simp
      go_at_call 130
      refine (slices_Clone _ _ _ _ _ hBd HB16.out).mono ?_
      rintro e w7 ⟨v7, rfl, ho7, hb7⟩
      rw [H2.out] at ho7
      have kp := Keep.of_below (F := fun k => k = p ∨ (Value.slice a1 it.length c1).ownBlock = some k ∨ W.heap.size ≤ k) hb7
      obtain ⟨a7, c7, rfl, _, _⟩ := Sl.of_owned ho7
      have hn7 : ∀ k, (Value.slice a7 512 c7).ownBlock = some k → W.heap.size ≤ k := fun k hk => (own_block_lt ho7 hk).1
      replace hrow := hrow.below hb7
      replace hown := own_below hown hb7
      have ho7 := own_base ho7 (Nat.zero_le _)
      have hs7 := hb7.size
      clear hb7
      refine hK _ _ (flow_step kk ?_ ?_)
      · first | exact kp | exact Keep.refl _ _ | exact (Keep.refl _ _).alloc _
      clear kk hK; try clear kp
      intro kk
      refine flowe_take 8 (v := ?_) (a' := ?_) hps rfl (by kernel_rfl) rfl ?_ ?_ ?_
      rotate_left 2
      · intro w' hk; go_simp; try rfl
      · simp only [Act.put, List.setIfInBounds_toArray, List.set_cons_succ, List.set_cons_zero]; try rfl
      refine flowe_any [4, 9] hps (by kernel_rfl) (by simp) (fun i hi => ?_)
      simp only [List.mem_cons, List.not_mem_nil, or_false] at hi
      rcases hi with rfl | rfl
      focus
        refine ⟨_, rfl, rfl, wp_next (fun K hK => ?_)⟩
        have hc := hrow.cell 1
        simp only [List.getElem?_cons_succ, List.getElem?_cons_zero] at hc
        go_simp
        clear hc
        refine hK _ _ (flow_step kk ?_ ?_)
        · first | exact kp | exact Keep.refl _ _ | exact (Keep.refl _ _).alloc _
        clear kk hK; try clear kp
        intro kk
        refine flowe_one 9 hps rfl (by kernel_rfl) rfl (wp_next (fun K hK => ?_))
        go_simp
        have hlit := Sl.lit w7 192 [.int .i64 I, .slice a7 512 c7] 1 2 rfl (by decide)
        replace hrow := hrow.alloc (.cells #[.int .i64 I, .slice a7 512 c7] 192 (0, 0))
        replace hown := hown.alloc (.cells #[.int .i64 I, .slice a7 512 c7] 192 (0, 0))
        replace ho7 := ho7.alloc (.cells #[.int .i64 I, .slice a7 512 c7] 192 (0, 0))
        refine hK _ _ (flow_step kk ?_ ?_)
        · first | exact kp | exact Keep.refl _ _ | exact (Keep.refl _ _).alloc _
        clear kk hK; try clear kp
        intro kk
        refine flowe_one 10 hps rfl (by kernel_rfl) rfl (wp_next (fun K hK => ?_))
        refine app_at _ _ 187 rfl 0 192 _ 2 32 Try.underlying187 info_wait rfl (by decide) (.slice a1 it.length c1) it.length _ rfl hown _ 1 1 _ rfl hlit (by intro u hu; simp only [List.mem_cons, List.not_mem_nil, or_false] at hu; rcases hu with rfl | rfl <;> rfl) (by omega) (by omega) (Nat.zero_le _) ?_
        intro v10 w10 hown10 kp10 hbl10
        have kp := kp10.mono (G := fun k => k = p ∨ (Value.slice a1 it.length c1).ownBlock = some k ∨ W.heap.size ≤ k) (fun k _ hk => .inr (.inl hk))
        have hrow0 := hrow
        replace hrow := hrow.keep kp10 (own_row_ne hown hrow (by decide))
        replace ho7 := own_kept ho7 kp10 (fun k hk hk2 => own_type_ne ho7 hown (by decide) hk hk2)
        obtain ⟨a10, c10, rfl, _, _⟩ := Sl.of_owned hown10
        simp only [Act.put, List.setIfInBounds_toArray, List.set_cons_succ, List.set_cons_zero]
        refine hK _ _ (flow_step kk ?_ ?_)
        · first | exact kp | exact Keep.refl _ _ | exact (Keep.refl _ _).alloc _
        clear kk hK; try clear kp
        intro kk
        refine flowe_take 11 (v := ?_) (a' := ?_) hps rfl (by kernel_rfl) rfl ?_ ?_ ?_
        rotate_left 2
        · intro w' hk; go_simp; try rfl
        · simp only [Act.put, List.setIfInBounds_toArray, List.set_cons_succ, List.set_cons_zero]; try rfl
        refine flowe_take 12 (v := ?_) (a' := ?_) hps rfl (by kernel_rfl) rfl ?_ ?_ ?_
        rotate_left 2
        · intro w' hk; go_simp; try rfl
        · simp only [Act.put, List.setIfInBounds_toArray, List.set_cons_succ, List.set_cons_zero]; try rfl
        refine flowe_one 13 hps rfl (by kernel_rfl) rfl (wp_next (fun K hK => ?_))
        have hc := hrow.cell 1
        simp only [List.getElem?_cons_succ, List.getElem?_cons_zero] at hc
        have hf := hrow.frozen 1
        go_simp
        have kp := (Keep.refl (fun k => k = p ∨ (Value.slice a1 it.length c1).ownBlock = some k ∨ W.heap.size ≤ k) w10).setCell (p := ⟨p, 1, none⟩) (.inl (.inl rfl)) (.slice a10 (it.length + 1) c10)
        clear hc hf
        refine hK _ _ (flow_step kk ?_ ?_)
        · first | exact kp | exact Keep.refl _ _ | exact (Keep.refl _ _).alloc _
        clear kk hK; try clear kp
        intro kk
        refine flowe_done hps (by kernel_rfl) ?_
      all_goals skip
      rotate_left 1
      focus
        refine ⟨_, rfl, rfl, wp_next (fun K hK => ?_)⟩
        go_simp
        have hlit := Sl.lit w7 192 [.int .i64 I, .slice a7 512 c7] 1 2 rfl (by decide)
        replace hrow := hrow.alloc (.cells #[.int .i64 I, .slice a7 512 c7] 192 (0, 0))
        replace hown := hown.alloc (.cells #[.int .i64 I, .slice a7 512 c7] 192 (0, 0))
        replace ho7 := ho7.alloc (.cells #[.int .i64 I, .slice a7 512 c7] 192 (0, 0))
        refine hK _ _ (flow_step kk ?_ ?_)
        · first | exact kp | exact Keep.refl _ _ | exact (Keep.refl _ _).alloc _
        clear kk hK; try clear kp
        intro kk
        refine flowe_one 4 hps rfl (by kernel_rfl) rfl (wp_next (fun K hK => ?_))
        have hc := hrow.cell 1
        simp only [List.getElem?_cons_succ, List.getElem?_cons_zero] at hc
        go_simp
        clear hc
        refine hK _ _ (flow_step kk ?_ ?_)
        · first | exact kp | exact Keep.refl _ _ | exact (Keep.refl _ _).alloc _
        clear kk hK; try clear kp
        intro kk
        refine flowe_one 10 hps rfl (by kernel_rfl) rfl (wp_next (fun K hK => ?_))
        refine app_at _ _ 187 rfl 0 192 _ 2 32 Try.underlying187 info_wait rfl (by decide) (.slice a1 it.length c1) it.length _ rfl hown _ 1 1 _ rfl hlit (by intro u hu; simp only [List.mem_cons, List.not_mem_nil, or_false] at hu; rcases hu with rfl | rfl <;> rfl) (by omega) (by omega) (Nat.zero_le _) ?_
        intro v10 w10 hown10 kp10 hbl10
        have kp := kp10.mono (G := fun k => k = p ∨ (Value.slice a1 it.length c1).ownBlock = some k ∨ W.heap.size ≤ k) (fun k _ hk => .inr (.inl hk))
        have hrow0 := hrow
        replace hrow := hrow.keep kp10 (own_row_ne hown hrow (by decide))
        replace ho7 := own_kept ho7 kp10 (fun k hk hk2 => own_type_ne ho7 hown (by decide) hk hk2)
        obtain ⟨a10, c10, rfl, _, _⟩ := Sl.of_owned hown10
        simp only [Act.put, List.setIfInBounds_toArray, List.set_cons_succ, List.set_cons_zero]
        refine hK _ _ (flow_step kk ?_ ?_)
        · first | exact kp | exact Keep.refl _ _ | exact (Keep.refl _ _).alloc _
        clear kk hK; try clear kp
        intro kk
        refine flowe_take 11 (v := ?_) (a' := ?_) hps rfl (by kernel_rfl) rfl ?_ ?_ ?_
        rotate_left 2
        · intro w' hk; go_simp; try rfl
        · simp only [Act.put, List.setIfInBounds_toArray, List.set_cons_succ, List.set_cons_zero]; try rfl
        refine flowe_take 12 (v := ?_) (a' := ?_) hps rfl (by kernel_rfl) rfl ?_ ?_ ?_
        rotate_left 2
        · intro w' hk; go_simp; try rfl
        · simp only [Act.put, List.setIfInBounds_toArray, List.set_cons_succ, List.set_cons_zero]; try rfl
        refine flowe_one 13 hps rfl (by kernel_rfl) rfl (wp_next (fun K hK => ?_))
        have hc := hrow.cell 1
        simp only [List.getElem?_cons_succ, List.getElem?_cons_zero] at hc
        have hf := hrow.frozen 1
        go_simp
        have kp := (Keep.refl (fun k => k = p ∨ (Value.slice a1 it.length c1).ownBlock = some k ∨ W.heap.size ≤ k) w10).setCell (p := ⟨p, 1, none⟩) (.inl (.inl rfl)) (.slice a10 (it.length + 1) c10)
        clear hc hf
        refine hK _ _ (flow_step kk ?_ ?_)
        · first | exact kp | exact Keep.refl _ _ | exact (Keep.refl _ _).alloc _
        clear kk hK; try clear kp
        intro kk
        refine flowe_done hps (by kernel_rfl) ?_
      all_goals skip
      rotate_left 1
    all_goals skip
    rotate_left 2
    all_goals
      have HD := Lib.hid hown10; have HK := Lib.hid kk; have HR := Lib.hid hrow; have H7 := Lib.hid ho7; have HN := Lib.hid hn7
      clear hown10 kk hrow ho7 hn7
      go_wp2
      go_ret
      have hgd := HW.out.good
      have r := HR.out.set 1 (.slice a10 (it.length + 1) c10)
      have ks := (Keep.refl (· = p) w10).setCell (p := ⟨p, 1, none⟩) (.inl rfl) (.slice a10 (it.length + 1) c10)
      have hsz : W.heap.size = W.drew.heap.size := rfl
      have hno : ∀ k, k < W.heap.size → ¬ k = p → ¬ (Value.slice a1 it.length c1).ownBlock = some k → ¬ (k = p ∨ (Value.slice a1 it.length c1).ownBlock = some k ∨ W.heap.size ≤ k) := by
        rintro k h1 h2 h3 (h | h | h)
        · exact h2 h
        · exact h3 h
        · omega
      have hn7r : ∀ k, (Value.slice a7 512 c7).ownBlock = some k → ¬ k = p := fun k hk e => own_row_ne H7.out HR.out (by decide) (e ▸ hk)
      refine ⟨rfl, fun k => F k ∨ W.heap.size ≤ k, ⟨_, _, it ++ [⟨I, b, .slice a7 512 c7⟩], ⟨r, ?_, ?_, ?_, ?_, ?_⟩, ?_⟩, ?_, fun k hk => hk.imp id fun h => Nat.le_trans KW.out.size h⟩
      · exact own_kept HW.out.ownb HK.out fun k hk => hno k (own_block_lt HW.out.ownb hk).2 (fun e => own_row_ne HW.out.ownb HW.out.row (by decide) (e ▸ hk)) (own_type_ne HW.out.ownb HW.out.ownw (by decide) hk)
      · have := own_kept HD.out ks fun k hk e => own_row_ne HD.out HR.out (by decide) (e ▸ hk)
        refine ownsRow_map this (by simp) ?_
        simp [Wt.cells]
      · show D.wait ++ [(I, b)] = _
        rw [H.out.wait, List.map_append]; rfl
      · intro x hx
        rcases List.mem_append.1 hx with hx | hx
        · have hi := HW.out.items x hx
          exact ⟨own_kept hi.1 HK.out fun k hk => hno k (own_block_lt hi.1 hk).2 (fun e => own_row_ne hi.1 HW.out.row (by decide) (e ▸ hk)) (own_type_ne hi.1 HW.out.ownw (by decide) hk), hi.2⟩
        · obtain rfl := List.mem_singleton.1 hx
          refine ⟨own_kept H7.out ks hn7r, fun e => ?_⟩
          have hg1 := (own_block_lt HW.out.ownb (show (Value.slice (some ⟨g, 0, none⟩) (512 * D.L.length) c0).ownBlock = some g from rfl)).2
          have := HN.out g (e.trans rfl)
          omega
      · refine ⟨hgd.secs, hgd.many, fun x hx => ?_, hgd.left⟩
        rcases List.mem_append.1 hx with hx | hx
        · exact hgd.waits x hx
        · obtain rfl := List.mem_singleton.1 hx
          exact ⟨h1, H2.out⟩
      · intro k hk
        rcases hk with rfl | hk | hk | ⟨x, hx, hk⟩
        · exact .inl (HF.out _ (.inl rfl))
        · exact .inl (HF.out _ (.inr (.inl hk)))
        · rcases hbl10 with e | e
          · exact .inl (HF.out _ (.inr (.inr (.inl (e ▸ hk)))))
          · rw [e] at hk
            have hk : w7.heap.size + 1 = k := by simpa using hk
            have hs7 : W.heap.size ≤ w7.heap.size := hs7
            exact .inr (by omega)
        · rcases List.mem_append.1 hx with hx | hx
          · exact .inl (HF.out _ (.inr (.inr (.inr ⟨x, hx, hk⟩))))
          · obtain rfl := List.mem_singleton.1 hx
            exact .inr (HN.out k hk)
      · refine KW.out.mono (fun k _ e => HF.out k (.inl e)) |>.trans ?_
        exact ⟨HK.out.os, HK.out.tape, HK.out.output, HK.out.size, fun k hk hn => HK.out.block k hk (hno k hk (fun e => hn (HF.out k (.inl e))) (fun e => hn (HF.out k (.inr (.inr (.inl e))))))⟩
  · rw [if_neg cl] at hL1
    subst hL1
    have HW := Lib.hid (show DkAt w p { D with left := D.left } _ _ it from H.out)
    have KW := Lib.hid (Keep.refl (· = p) w)
    go_wp2_with fail
    have HRW := HW.out.row
    have hneB : off (· = p) a := Bs.off_row HB.out H.out.row (by have := H2.out; omega) (by simp [bv])
    have hB : Bs w a 512 c b := HB.out.keep KW.out hneB
    have hrow : Row w.drew p 189 [.slice (some ⟨g, 0, none⟩) (512 * D.L.length) c0, .slice a1 it.length c1, .bool D.off, .int .i64 D.left] := HRW.drew
    have hown : w.drew.ownsRow 0 192 2 (.slice a1 it.length c1) it.length (it.map Wt.cells).flatten := own_drew HW.out.ownw
    have hBd := hB.drew
    have hb16 : b.length ≤ 140737488355328 := by have := H2.out; omega
    have HB16 := Lib.hid hb16
    clear hB hneB HRW hb16
    refine flowe_begin (F := fun k => k = p ∨ (Value.slice a1 it.length c1).ownBlock = some k ∨ w.heap.size ≤ k) hmixed 14 rfl (by repeat (first | exact ps_body | refine ps_then ?_ | refine ps_block ?_)) (fun hps => ?_)
    simp only [List.replicate]
    have kk := (Keep.refl (fun k => k = p ∨ (Value.slice a1 it.length c1).ownBlock = some k ∨ w.heap.size ≤ k) (w)).drew
    refine flowe_take 0 (v := ?_) (a' := ?_) hps rfl (by kernel_rfl) rfl ?_ ?_ ?_
    rotate_left 2
    · intro w' hk; go_simp; try rfl
    · simp only [Act.put, List.setIfInBounds_toArray, List.set_cons_succ, List.set_cons_zero]; try rfl
    refine flowe_take 1 (v := ?_) (a' := ?_) hps rfl (by kernel_rfl) rfl ?_ ?_ ?_
    rotate_left 2
    · intro w' hk; go_simp; try rfl
    · simp only [Act.put, List.setIfInBounds_toArray, List.set_cons_succ, List.set_cons_zero]; try rfl
    refine flowe_take 2 (v := ?_) (a' := ?_) hps rfl (by kernel_rfl) rfl ?_ ?_ ?_
    rotate_left 2
    · intro w' hk; go_simp; try rfl
    · simp only [Act.put, List.setIfInBounds_toArray, List.set_cons_succ, List.set_cons_zero]; try rfl
    refine flowe_take 3 (v := ?_) (a' := ?_) hps rfl (by kernel_rfl) rfl ?_ ?_ ?_
    rotate_left 2
    · intro w' hk; go_simp; try rfl
    · simp only [Act.put, List.setIfInBounds_toArray, List.set_cons_succ, List.set_cons_zero]; try rfl
    refine flowe_take 5 (v := ?_) (a' := ?_) hps rfl (by kernel_rfl) rfl ?_ ?_ ?_
    rotate_left 2
    · intro w' hk; go_simp; try rfl
    · simp only [Act.put, List.setIfInBounds_toArray, List.set_cons_succ, List.set_cons_zero]; try rfl
    refine flowe_take 6 (v := ?_) (a' := ?_) hps rfl (by kernel_rfl) rfl ?_ ?_ ?_
    rotate_left 2
    · intro w' hk; go_simp; try rfl
    · simp only [Act.put, List.setIfInBounds_toArray, List.set_cons_succ, List.set_cons_zero]; try rfl
    refine flowe_any [4, 7] hps (by kernel_rfl) (by simp) (fun i hi => ?_)
    simp only [List.mem_cons, List.not_mem_nil, or_false] at hi
    rcases hi with rfl | rfl
    focus
      refine ⟨_, rfl, rfl, wp_next (fun K hK => ?_)⟩
      have hc := hrow.cell 1
      simp only [List.getElem?_cons_succ, List.getElem?_cons_zero] at hc
      go_simp
      clear hc
      refine hK _ _ (flow_step kk ?_ ?_)
      · first | exact kp | exact Keep.refl _ _ | exact (Keep.refl _ _).alloc _
      clear kk hK; try clear kp
      intro kk
      refine flowe_one 7 hps rfl (by kernel_rfl) rfl (wp_next (fun K hK => ?_))
      go_simp
      go_at_call 130
      refine (slices_Clone _ _ _ _ _ hBd HB16.out).mono ?_
      rintro e w7 ⟨v7, rfl, ho7, hb7⟩
      rw [H2.out] at ho7
      have kp := Keep.of_below (F := fun k => k = p ∨ (Value.slice a1 it.length c1).ownBlock = some k ∨ w.heap.size ≤ k) hb7
      obtain ⟨a7, c7, rfl, _, _⟩ := Sl.of_owned ho7
      have hn7 : ∀ k, (Value.slice a7 512 c7).ownBlock = some k → w.heap.size ≤ k := fun k hk => (own_block_lt ho7 hk).1
      replace hrow := hrow.below hb7
      replace hown := own_below hown hb7
      have ho7 := own_base ho7 (Nat.zero_le _)
      have hs7 := hb7.size
      clear hb7
      refine hK _ _ (flow_step kk ?_ ?_)
      · first | exact kp | exact Keep.refl _ _ | exact (Keep.refl _ _).alloc _
      clear kk hK; try clear kp
      intro kk
      refine flowe_take 8 (v := ?_) (a' := ?_) hps rfl (by kernel_rfl) rfl ?_ ?_ ?_
      rotate_left 2
      · intro w' hk; go_simp; try rfl
      · simp only [Act.put, List.setIfInBounds_toArray, List.set_cons_succ, List.set_cons_zero]; try rfl
      refine flowe_one 9 hps rfl (by kernel_rfl) rfl (wp_next (fun K hK => ?_))
      go_simp
      have hlit := Sl.lit w7 192 [.int .i64 I, .slice a7 512 c7] 1 2 rfl (by decide)
      replace hrow := hrow.alloc (.cells #[.int .i64 I, .slice a7 512 c7] 192 (0, 0))
      replace hown := hown.alloc (.cells #[.int .i64 I, .slice a7 512 c7] 192 (0, 0))
      replace ho7 := ho7.alloc (.cells #[.int .i64 I, .slice a7 512 c7] 192 (0, 0))
      refine hK _ _ (flow_step kk ?_ ?_)
      · first | exact kp | exact Keep.refl _ _ | exact (Keep.refl _ _).alloc _
      clear kk hK; try clear kp
      intro kk
      refine flowe_one 10 hps rfl (by kernel_rfl) rfl (wp_next (fun K hK => ?_))
      refine app_at _ _ 187 rfl 0 192 _ 2 32 Try.underlying187 info_wait rfl (by decide) (.slice a1 it.length c1) it.length _ rfl hown _ 1 1 _ rfl hlit (by intro u hu; simp only [List.mem_cons, List.not_mem_nil, or_false] at hu; rcases hu with rfl | rfl <;> rfl) (by omega) (by omega) (Nat.zero_le _) ?_
      intro v10 w10 hown10 kp10 hbl10
      have kp := kp10.mono (G := fun k => k = p ∨ (Value.slice a1 it.length c1).ownBlock = some k ∨ w.heap.size ≤ k) (fun k _ hk => .inr (.inl hk))
      have hrow0 := hrow
      replace hrow := hrow.keep kp10 (own_row_ne hown hrow (by decide))
      replace ho7 := own_kept ho7 kp10 (fun k hk hk2 => own_type_ne ho7 hown (by decide) hk hk2)
      obtain ⟨a10, c10, rfl, _, _⟩ := Sl.of_owned hown10
      simp only [Act.put, List.setIfInBounds_toArray, List.set_cons_succ, List.set_cons_zero]
      refine hK _ _ (flow_step kk ?_ ?_)
      · first | exact kp | exact Keep.refl _ _ | exact (Keep.refl _ _).alloc _
      clear kk hK; try clear kp
      intro kk
      refine flowe_take 11 (v := ?_) (a' := ?_) hps rfl (by kernel_rfl) rfl ?_ ?_ ?_
      rotate_left 2
      · intro w' hk; go_simp; try rfl
      · simp only [Act.put, List.setIfInBounds_toArray, List.set_cons_succ, List.set_cons_zero]; try rfl
      refine flowe_take 12 (v := ?_) (a' := ?_) hps rfl (by kernel_rfl) rfl ?_ ?_ ?_
      rotate_left 2
      · intro w' hk; go_simp; try rfl
      · simp only [Act.put, List.setIfInBounds_toArray, List.set_cons_succ, List.set_cons_zero]; try rfl
      refine flowe_one 13 hps rfl (by kernel_rfl) rfl (wp_next (fun K hK => ?_))
      have hc := hrow.cell 1
      simp only [List.getElem?_cons_succ, List.getElem?_cons_zero] at hc
      have hf := hrow.frozen 1
      go_simp
      have kp := (Keep.refl (fun k => k = p ∨ (Value.slice a1 it.length c1).ownBlock = some k ∨ w.heap.size ≤ k) w10).setCell (p := ⟨p, 1, none⟩) (.inl (.inl rfl)) (.slice a10 (it.length + 1) c10)
      clear hc hf
      refine hK _ _ (flow_step kk ?_ ?_)
      · first | exact kp | exact Keep.refl _ _ | exact (Keep.refl _ _).alloc _
      clear kk hK; try clear kp
      intro kk
      refine flowe_done hps (by kernel_rfl) ?_
    all_goals skip
    rotate_left 1
    focus
      refine ⟨_, rfl, rfl, wp_next (fun K hK => ?_)⟩
      go_simp
      go_at_call 130
      refine (slices_Clone _ _ _ _ _ hBd HB16.out).mono ?_
      rintro e w7 ⟨v7, rfl, ho7, hb7⟩
      rw [H2.out] at ho7
      have kp := Keep.of_below (F := fun k => k = p ∨ (Value.slice a1 it.length c1).ownBlock = some k ∨ w.heap.size ≤ k) hb7
      obtain ⟨a7, c7, rfl, _, _⟩ := Sl.of_owned ho7
      have hn7 : ∀ k, (Value.slice a7 512 c7).ownBlock = some k → w.heap.size ≤ k := fun k hk => (own_block_lt ho7 hk).1
      replace hrow := hrow.below hb7
      replace hown := own_below hown hb7
      have ho7 := own_base ho7 (Nat.zero_le _)
      have hs7 := hb7.size
      clear hb7
      refine hK _ _ (flow_step kk ?_ ?_)
      · first | exact kp | exact Keep.refl _ _ | exact (Keep.refl _ _).alloc _
      clear kk hK; try clear kp
      intro kk
      refine flowe_take 8 (v := ?_) (a' := ?_) hps rfl (by kernel_rfl) rfl ?_ ?_ ?_
      rotate_left 2
      · intro w' hk; go_simp; try rfl
      · simp only [Act.put, List.setIfInBounds_toArray, List.set_cons_succ, List.set_cons_zero]; try rfl
      refine flowe_any [4, 9] hps (by kernel_rfl) (by simp) (fun i hi => ?_)
      simp only [List.mem_cons, List.not_mem_nil, or_false] at hi
      rcases hi with rfl | rfl
      focus
        refine ⟨_, rfl, rfl, wp_next (fun K hK => ?_)⟩
        have hc := hrow.cell 1
        simp only [List.getElem?_cons_succ, List.getElem?_cons_zero] at hc
        go_simp
        clear hc
        refine hK _ _ (flow_step kk ?_ ?_)
        · first | exact kp | exact Keep.refl _ _ | exact (Keep.refl _ _).alloc _
        clear kk hK; try clear kp
        intro kk
        refine flowe_one 9 hps rfl (by kernel_rfl) rfl (wp_next (fun K hK => ?_))
        go_simp
        have hlit := Sl.lit w7 192 [.int .i64 I, .slice a7 512 c7] 1 2 rfl (by decide)
        replace hrow := hrow.alloc (.cells #[.int .i64 I, .slice a7 512 c7] 192 (0, 0))
        replace hown := hown.alloc (.cells #[.int .i64 I, .slice a7 512 c7] 192 (0, 0))
        replace ho7 := ho7.alloc (.cells #[.int .i64 I, .slice a7 512 c7] 192 (0, 0))
        refine hK _ _ (flow_step kk ?_ ?_)
        · first | exact kp | exact Keep.refl _ _ | exact (Keep.refl _ _).alloc _
        clear kk hK; try clear kp
        intro kk
        refine flowe_one 10 hps rfl (by kernel_rfl) rfl (wp_next (fun K hK => ?_))
        refine app_at _ _ 187 rfl 0 192 _ 2 32 Try.underlying187 info_wait rfl (by decide) (.slice a1 it.length c1) it.length _ rfl hown _ 1 1 _ rfl hlit (by intro u hu; simp only [List.mem_cons, List.not_mem_nil, or_false] at hu; rcases hu with rfl | rfl <;> rfl) (by omega) (by omega) (Nat.zero_le _) ?_
        intro v10 w10 hown10 kp10 hbl10
        have kp := kp10.mono (G := fun k => k = p ∨ (Value.slice a1 it.length c1).ownBlock = some k ∨ w.heap.size ≤ k) (fun k _ hk => .inr (.inl hk))
        have hrow0 := hrow
        replace hrow := hrow.keep kp10 (own_row_ne hown hrow (by decide))
        replace ho7 := own_kept ho7 kp10 (fun k hk hk2 => own_type_ne ho7 hown (by decide) hk hk2)
        obtain ⟨a10, c10, rfl, _, _⟩ := Sl.of_owned hown10
        simp only [Act.put, List.setIfInBounds_toArray, List.set_cons_succ, List.set_cons_zero]
        refine hK _ _ (flow_step kk ?_ ?_)
        · first | exact kp | exact Keep.refl _ _ | exact (Keep.refl _ _).alloc _
        clear kk hK; try clear kp
        intro kk
        refine flowe_take 11 (v := ?_) (a' := ?_) hps rfl (by kernel_rfl) rfl ?_ ?_ ?_
        rotate_left 2
        · intro w' hk; go_simp; try rfl
        · simp only [Act.put, List.setIfInBounds_toArray, List.set_cons_succ, List.set_cons_zero]; try rfl
        refine flowe_take 12 (v := ?_) (a' := ?_) hps rfl (by kernel_rfl) rfl ?_ ?_ ?_
        rotate_left 2
        · intro w' hk; go_simp; try rfl
        · simp only [Act.put, List.setIfInBounds_toArray, List.set_cons_succ, List.set_cons_zero]; try rfl
        refine flowe_one 13 hps rfl (by kernel_rfl) rfl (wp_next (fun K hK => ?_))
        have hc := hrow.cell 1
        simp only [List.getElem?_cons_succ, List.getElem?_cons_zero] at hc
        have hf := hrow.frozen 1
        go_simp
        have kp := (Keep.refl (fun k => k = p ∨ (Value.slice a1 it.length c1).ownBlock = some k ∨ w.heap.size ≤ k) w10).setCell (p := ⟨p, 1, none⟩) (.inl (.inl rfl)) (.slice a10 (it.length + 1) c10)
        clear hc hf
        refine hK _ _ (flow_step kk ?_ ?_)
        · first | exact kp | exact Keep.refl _ _ | exact (Keep.refl _ _).alloc _
        clear kk hK; try clear kp
        intro kk
        refine flowe_done hps (by kernel_rfl) ?_
      all_goals skip
      rotate_left 1
      focus
        refine ⟨_, rfl, rfl, wp_next (fun K hK => ?_)⟩
        go_simp
        have hlit := Sl.lit w7 192 [.int .i64 I, .slice a7 512 c7] 1 2 rfl (by decide)
        replace hrow := hrow.alloc (.cells #[.int .i64 I, .slice a7 512 c7] 192 (0, 0))
        replace hown := hown.alloc (.cells #[.int .i64 I, .slice a7 512 c7] 192 (0, 0))
        replace ho7 := ho7.alloc (.cells #[.int .i64 I, .slice a7 512 c7] 192 (0, 0))
        refine hK _ _ (flow_step kk ?_ ?_)
        · first | exact kp | exact Keep.refl _ _ | exact (Keep.refl _ _).alloc _
        clear kk hK; try clear kp
        intro kk
        refine flowe_one 4 hps rfl (by kernel_rfl) rfl (wp_next (fun K hK => ?_))
        have hc := hrow.cell 1
        simp only [List.getElem?_cons_succ, List.getElem?_cons_zero] at hc
        go_simp
        clear hc
        refine hK _ _ (flow_step kk ?_ ?_)
        · first | exact kp | exact Keep.refl _ _ | exact (Keep.refl _ _).alloc _
        clear kk hK; try clear kp
        intro kk
        refine flowe_one 10 hps rfl (by kernel_rfl) rfl (wp_next (fun K hK => ?_))
        refine app_at _ _ 187 rfl 0 192 _ 2 32 Try.underlying187 info_wait rfl (by decide) (.slice a1 it.length c1) it.length _ rfl hown _ 1 1 _ rfl hlit (by intro u hu; simp only [List.mem_cons, List.not_mem_nil, or_false] at hu; rcases hu with rfl | rfl <;> rfl) (by omega) (by omega) (Nat.zero_le _) ?_
        intro v10 w10 hown10 kp10 hbl10
        have kp := kp10.mono (G := fun k => k = p ∨ (Value.slice a1 it.length c1).ownBlock = some k ∨ w.heap.size ≤ k) (fun k _ hk => .inr (.inl hk))
        have hrow0 := hrow
        replace hrow := hrow.keep kp10 (own_row_ne hown hrow (by decide))
        replace ho7 := own_kept ho7 kp10 (fun k hk hk2 => own_type_ne ho7 hown (by decide) hk hk2)
        obtain ⟨a10, c10, rfl, _, _⟩ := Sl.of_owned hown10
        simp only [Act.put, List.setIfInBounds_toArray, List.set_cons_succ, List.set_cons_zero]
        refine hK _ _ (flow_step kk ?_ ?_)
        · first | exact kp | exact Keep.refl _ _ | exact (Keep.refl _ _).alloc _
        clear kk hK; try clear kp
        intro kk
        refine flowe_take 11 (v := ?_) (a' := ?_) hps rfl (by kernel_rfl) rfl ?_ ?_ ?_
        rotate_left 2
        · intro w' hk; go_simp; try rfl
        · simp only [Act.put, List.setIfInBounds_toArray, List.set_cons_succ, List.set_cons_zero]; try rfl
        refine flowe_take 12 (v := ?_) (a' := ?_) hps rfl (by kernel_rfl) rfl ?_ ?_ ?_
        rotate_left 2
        · intro w' hk; go_simp; try rfl
        · simp only [Act.put, List.setIfInBounds_toArray, List.set_cons_succ, List.set_cons_zero]; try rfl
        refine flowe_one 13 hps rfl (by kernel_rfl) rfl (wp_next (fun K hK => ?_))
        have hc := hrow.cell 1
        simp only [List.getElem?_cons_succ, List.getElem?_cons_zero] at hc
        have hf := hrow.frozen 1
        go_simp
        have kp := (Keep.refl (fun k => k = p ∨ (Value.slice a1 it.length c1).ownBlock = some k ∨ w.heap.size ≤ k) w10).setCell (p := ⟨p, 1, none⟩) (.inl (.inl rfl)) (.slice a10 (it.length + 1) c10)
        clear hc hf
        refine hK _ _ (flow_step kk ?_ ?_)
        · first | exact kp | exact Keep.refl _ _ | exact (Keep.refl _ _).alloc _
        clear kk hK; try clear kp
        intro kk
        refine flowe_done hps (by kernel_rfl) ?_
      all_goals skip
      rotate_left 1
    all_goals skip
    rotate_left 2
    all_goals
      have HD := Lib.hid hown10; have HK := Lib.hid kk; have HR := Lib.hid hrow; have H7 := Lib.hid ho7; have HN := Lib.hid hn7
      clear hown10 kk hrow ho7 hn7
      go_wp2
      go_ret
      have hgd := HW.out.good
      have r := HR.out.set 1 (.slice a10 (it.length + 1) c10)
      have ks := (Keep.refl (· = p) w10).setCell (p := ⟨p, 1, none⟩) (.inl rfl) (.slice a10 (it.length + 1) c10)
      have hsz : w.heap.size = w.drew.heap.size := rfl
      have hno : ∀ k, k < w.heap.size → ¬ k = p → ¬ (Value.slice a1 it.length c1).ownBlock = some k → ¬ (k = p ∨ (Value.slice a1 it.length c1).ownBlock = some k ∨ w.heap.size ≤ k) := by
        rintro k h1 h2 h3 (h | h | h)
        · exact h2 h
        · exact h3 h
        · omega
      have hn7r : ∀ k, (Value.slice a7 512 c7).ownBlock = some k → ¬ k = p := fun k hk e => own_row_ne H7.out HR.out (by decide) (e ▸ hk)
      refine ⟨rfl, fun k => F k ∨ w.heap.size ≤ k, ⟨_, _, it ++ [⟨I, b, .slice a7 512 c7⟩], ⟨r, ?_, ?_, ?_, ?_, ?_⟩, ?_⟩, ?_, fun k hk => hk.imp id fun h => Nat.le_trans KW.out.size h⟩
      · exact own_kept HW.out.ownb HK.out fun k hk => hno k (own_block_lt HW.out.ownb hk).2 (fun e => own_row_ne HW.out.ownb HW.out.row (by decide) (e ▸ hk)) (own_type_ne HW.out.ownb HW.out.ownw (by decide) hk)
      · have := own_kept HD.out ks fun k hk e => own_row_ne HD.out HR.out (by decide) (e ▸ hk)
        refine ownsRow_map this (by simp) ?_
        simp [Wt.cells]
      · show D.wait ++ [(I, b)] = _
        rw [H.out.wait, List.map_append]; rfl
      · intro x hx
        rcases List.mem_append.1 hx with hx | hx
        · have hi := HW.out.items x hx
          exact ⟨own_kept hi.1 HK.out fun k hk => hno k (own_block_lt hi.1 hk).2 (fun e => own_row_ne hi.1 HW.out.row (by decide) (e ▸ hk)) (own_type_ne hi.1 HW.out.ownw (by decide) hk), hi.2⟩
        · obtain rfl := List.mem_singleton.1 hx
          refine ⟨own_kept H7.out ks hn7r, fun e => ?_⟩
          have hg1 := (own_block_lt HW.out.ownb (show (Value.slice (some ⟨g, 0, none⟩) (512 * D.L.length) c0).ownBlock = some g from rfl)).2
          have := HN.out g (e.trans rfl)
          omega
      · refine ⟨hgd.secs, hgd.many, fun x hx => ?_, hgd.left⟩
        rcases List.mem_append.1 hx with hx | hx
        · exact hgd.waits x hx
        · obtain rfl := List.mem_singleton.1 hx
          exact ⟨h1, H2.out⟩
      · intro k hk
        rcases hk with rfl | hk | hk | ⟨x, hx, hk⟩
        · exact .inl (HF.out _ (.inl rfl))
        · exact .inl (HF.out _ (.inr (.inl hk)))
        · rcases hbl10 with e | e
          · exact .inl (HF.out _ (.inr (.inr (.inl (e ▸ hk)))))
          · rw [e] at hk
            have hk : w7.heap.size + 1 = k := by simpa using hk
            have hs7 : w.heap.size ≤ w7.heap.size := hs7
            exact .inr (by omega)
        · rcases List.mem_append.1 hx with hx | hx
          · exact .inl (HF.out _ (.inr (.inr (.inr ⟨x, hx, hk⟩))))
          · obtain rfl := List.mem_singleton.1 hx
            exact .inr (HN.out k hk)
      · refine KW.out.mono (fun k _ e => HF.out k (.inl e)) |>.trans ?_
        exact ⟨HK.out.os, HK.out.tape, HK.out.output, HK.out.size, fun k hk hn => HK.out.block k hk (hno k hk (fun e => hn (HF.out k (.inl e))) (fun e => hn (HF.out k (.inr (.inr (.inl e))))))⟩
end Go.Proofs.Ytjijniillehfoaa
