import Derived.Test.YtibjcadingedaaaWord
namespace Go.Proofs.Ytibjcadingedaaa
open Go Go.RowKit Go.Own
set_option linter.unusedVariables false
theorem hmixed : Try.prog.follows .mixedOrders = true := by kernel_rfl

theorem word_Put4 (w : World) (v : Int) (h0 : 0 ≤ v) (h1 : v ≤ 4294967295) :
    Calls Try.prog 26 #[.int .u32 v] w (NewBs w (low v.toNat 4)) := by
  go_enter Try.func26, Try.ntmps26
  go_wp2_with fail
  refine (word_Put _ _ (by omega) (by omega)).mono ?_; rintro e w1 ⟨a, n, c, rfl, hB, hn, hb⟩
  have hl := hB.len
  rw [low_length] at hl
  subst hl
  have hc := Sl.cap hB
  obtain ⟨b, o, rfl, hlt⟩ := Sl.some hB (by decide) (by decide)
  have hx := Sl.recap (hB.cut 0 4 (by decide) (by decide)) 4 (by decide) (by decide)
  have HX := Lib.hid hx; have HN := Lib.hid hn; have HB := Lib.hid hb
  clear hx hn hb hB
  go_wp2
  go_ret
  exact ⟨_, _, _, rfl, HX.out, fun p hp => by cases hp; exact HN.out _ rfl, HB.out⟩

theorem run_s (w : World) {a : Option Addr} {n c : Nat} {l : List UInt8} (h : Bs w a n c l) : (Go.convert 29 9 (.slice a n c)).run Try.prog w = .ok (.string ⟨l.toArray⟩) w :=
  run_str Try.underlying29 Try.underlying9 Try.underlying5 h

theorem up01 (w : World) : Calls Try.prog 20 #[] w fun e w' => e = .returned (.bool true) ∧ Below w.heap.size w w' := by
  go_enter Try.func20, Try.ntmps20
  go_wp2_with fail
  refine flow_begin (F := fun _ => False) hmixed 6 rfl (by repeat (first | exact ps_body | refine ps_then ?_ | refine ps_block ?_)) (fun hps => ?_)
  simp only [List.replicate]
  have kk := Keep.refl (fun _ => False) (w)
  refine flow_any [0, 2] hps (by kernel_rfl) (by simp) (fun i hi => ?_)
  simp only [List.mem_cons, List.not_mem_nil, or_false] at hi
  rcases hi with rfl | rfl
  · refine ⟨_, rfl, rfl, fun w0x hk0 => wp_next (fun K hK => ?_)⟩
    go_simp
    go_at_call 26
    refine (word_Put4 _ _ (by decide) (by decide)).mono ?_
    rintro e w0 ⟨a0, n0, c0, rfl, hB0, hn0, hb0⟩
    have kp := Keep.of_below (F := fun _ => False) hb0
    refine hK _ _ ⟨kp, ?_⟩
    replace kk := (kk.trans hk0).trans kp; clear kp hK hk0
    refine flow_take 1 (v := ?v2) (a' := ?a2) hps rfl (by kernel_rfl) rfl ?r2 ?h2 ?_
    case r2 => intro w' hk; have hr := run_s w' (hB0.keep hk fun _ _ h => h); go_simp; try rfl
    case h2 => simp only [Act.put, List.setIfInBounds_toArray, List.set_cons_succ, List.set_cons_zero]; try rfl
    refine flow_one 2 hps rfl (by kernel_rfl) rfl (fun w2x hk2 => wp_next (fun K hK => ?_))
    go_simp
    have hB2 : Bs _ _ 4 4 [2, 1, 0, 0] := Sl.lit w2x 5 [.int .u8 2, .int .u8 1, .int .u8 0, .int .u8 0] 4 1 rfl (by decide)
    have kp := (Keep.refl (fun _ => False) w2x).alloc (.cells [.int .u8 2, .int .u8 1, .int .u8 0, .int .u8 0].toArray 5 (0, 0))
    refine hK _ _ ⟨kp, ?_⟩
    replace kk := (kk.trans hk2).trans kp; clear kp hK hk2
    refine flow_take 3 (v := ?v4) (a' := ?a4) hps rfl (by kernel_rfl) rfl ?r4 ?h4 ?_
    case r4 => intro w' hk; have hr := run_s w' (hB2.keep hk fun _ _ h => h); go_simp; try rfl
    case h4 => simp only [Act.put, List.setIfInBounds_toArray, List.set_cons_succ, List.set_cons_zero]; try rfl
    refine flow_take 4 (v := ?v5) (a' := ?a5) hps rfl (by kernel_rfl) rfl ?r5 ?h5 ?_
    case r5 => intro w' hk; go_simp; try rfl
    case h5 => simp only [Act.put, List.setIfInBounds_toArray, List.set_cons_succ, List.set_cons_zero]; try rfl
    refine flow_take 5 (v := ?v6) (a' := ?a6) hps rfl (by kernel_rfl) rfl ?r6 ?h6 ?_
    case r6 => intro w' hk; go_simp; try rfl
    case h6 => simp only [Act.put, List.setIfInBounds_toArray, List.set_cons_succ, List.set_cons_zero]; try rfl
    refine flow_done hps (by kernel_rfl) (fun wE hE => ?_)
    replace kk := kk.trans hE; clear hE
    go_wp2
    go_ret
    exact ⟨rB (by decide), kk.below (Nat.le_refl _) fun _ _ h => h⟩
  · refine ⟨_, rfl, rfl, fun w2x hk2 => wp_next (fun K hK => ?_)⟩
    go_simp
    have hB2 : Bs _ _ 4 4 [2, 1, 0, 0] := Sl.lit w2x 5 [.int .u8 2, .int .u8 1, .int .u8 0, .int .u8 0] 4 1 rfl (by decide)
    have kp := (Keep.refl (fun _ => False) w2x).alloc (.cells [.int .u8 2, .int .u8 1, .int .u8 0, .int .u8 0].toArray 5 (0, 0))
    refine hK _ _ ⟨kp, ?_⟩
    replace kk := (kk.trans hk2).trans kp; clear kp hK hk2
    refine flow_take 3 (v := ?v8) (a' := ?a8) hps rfl (by kernel_rfl) rfl ?r8 ?h8 ?_
    case r8 => intro w' hk; have hr := run_s w' (hB2.keep hk fun _ _ h => h); go_simp; try rfl
    case h8 => simp only [Act.put, List.setIfInBounds_toArray, List.set_cons_succ, List.set_cons_zero]; try rfl
    refine flow_one 0 hps rfl (by kernel_rfl) rfl (fun w0x hk0 => wp_next (fun K hK => ?_))
    go_simp
    go_at_call 26
    refine (word_Put4 _ _ (by decide) (by decide)).mono ?_
    rintro e w0 ⟨a0, n0, c0, rfl, hB0, hn0, hb0⟩
    have kp := Keep.of_below (F := fun _ => False) hb0
    refine hK _ _ ⟨kp, ?_⟩
    replace kk := (kk.trans hk0).trans kp; clear kp hK hk0
    refine flow_take 1 (v := ?v10) (a' := ?a10) hps rfl (by kernel_rfl) rfl ?r10 ?h10 ?_
    case r10 => intro w' hk; have hr := run_s w' (hB0.keep hk fun _ _ h => h); go_simp; try rfl
    case h10 => simp only [Act.put, List.setIfInBounds_toArray, List.set_cons_succ, List.set_cons_zero]; try rfl
    refine flow_take 4 (v := ?v11) (a' := ?a11) hps rfl (by kernel_rfl) rfl ?r11 ?h11 ?_
    case r11 => intro w' hk; go_simp; try rfl
    case h11 => simp only [Act.put, List.setIfInBounds_toArray, List.set_cons_succ, List.set_cons_zero]; try rfl
    refine flow_take 5 (v := ?v12) (a' := ?a12) hps rfl (by kernel_rfl) rfl ?r12 ?h12 ?_
    case r12 => intro w' hk; go_simp; try rfl
    case h12 => simp only [Act.put, List.setIfInBounds_toArray, List.set_cons_succ, List.set_cons_zero]; try rfl
    refine flow_done hps (by kernel_rfl) (fun wE hE => ?_)
    replace kk := kk.trans hE; clear hE
    go_wp2
    go_ret
    exact ⟨rB (by decide), kk.below (Nat.le_refl _) fun _ _ h => h⟩
end Go.Proofs.Ytibjcadingedaaa
