/- The reference's disk: NewDisk. -/
import Derived.Test.YtjijniillehfoaaRDisk3
namespace Go.Proofs.Ytjijniillehfoaa
open Go Go.RowKit Go.Own
set_option linter.unusedVariables false
set_option maxRecDepth 100000
theorem info_bytes : Info Try.prog 31 (.slice none 0 0) 1 24 := by unfold Info; kernel_rfl
theorem sec_piece4 {L : List (List UInt8)} (h : Secs L) (i : Nat) (hi : i < L.length) (q : Nat) (hq : q = 512 * i) : (L.flatten.take (q + 512)).drop q = L[i] := by
  subst hq
  rw [List.drop_take, show 512 * i + 512 - 512 * i = 512 by omega]
  exact secs_at h i hi
def NewRd (D : Dk) (w : World) (e : Ending) (w' : World) : Prop :=
  ∃ p, e = .returned (.pointer (some ⟨p, 0, none⟩)) ∧ RdRep w' p D (fun k => w.heap.size ≤ k) ∧ w.heap.size ≤ p ∧ Below w.heap.size w w'
set_option maxHeartbeats 8000000 in
theorem rd_New (w : World) (a : Option Addr) (n c : Nat) (b : List UInt8) (hb : Bs w a n c b) (L : List (List UInt8)) (hs : Secs L) (hL : L.flatten = b) (h2 : 2 ≤ L.length) (h3 : L.length ≤ 128) :
    Calls Try.prog 37 #[.slice a n c] w (NewRd ⟨L, [], false, -1⟩ w) := by
  have hn := hb.len
  have hc := Sl.cap hb; have hr := Sl.room hb
  have hlen := secs_len hs
  rw [hL] at hlen
  rw [hlen] at hn
  subst hn
  have HB := Lib.hid hb; have HLL := Lib.hid hL; have HLN := Lib.hid hlen; have HSC := Lib.hid hs
  clear hb hL hlen hs
  go_enter Try.func37, Try.ntmps37
  go_wp2
  go_loopw [4] (fun v wr => ∃ (k : Nat) (vL : Value) (ss : List (List UInt8 × Value)), k ≤ L.length ∧ v = .int .i64 (512 * k : Nat) ∧ RdAt wr w.heap.size ⟨L.take k, [], false, -1⟩ vL (.slice none 0 0) ss [] ∧ (∀ x, rdF w.heap.size vL (.slice none 0 0) ss [] x → w.heap.size ≤ x) ∧ Below w.heap.size w wr) (fun v _ => 512 * L.length + 1 - (intOf v).toNat)
  case atStart =>
    refine ⟨0, .slice none 0 0, [], Nat.zero_le _, rfl, ⟨Row.made _ _ _, World.ownsRow_nil _ _ _ _, World.ownsRow_nil _ _ _ _, rfl, rfl, (fun x hx => by cases hx), (fun x hx => by cases hx)⟩, ?_, (Below.refl _ _).alloc (Nat.le_refl _) _⟩
    rintro x (rfl | h | h | ⟨y, hy, _⟩ | ⟨y, hy, _⟩)
    · exact Nat.le_refl _
    · cases h
    · cases h
    · cases hy
    · cases hy
  case round =>
    obtain ⟨k, vL, ss, hk, rfl, hR, hF, hb⟩ := hrel
    obtain ⟨q, hq⟩ : ∃ q, q = 512 * k := ⟨_, rfl⟩
    rw [← hq]
    have hm2 : IntKind.i64.wrap ((q : Int) + 512) = (q : Int) + 512 := IntWalk.i64_in _ (by omega)
    have hlk : ss.length = k := by have := hR.len.1; simp only [List.length_take] at this; omega
    have hss : ss.length ≤ 128 := by omega
    have HLK := Lib.hid hlk
    clear hlk
    by_cases hlt : k < L.length
    · have hBw : Bs wr a (512 * L.length) c b := HB.out.below hb
      have hs5 : (Try.prog.info? 5).map (·.size) = some 1 := by kernel_rfl
      obtain ⟨x1, y1, e1, z1, _⟩ := piece Try.underlying31 hs5 hBw .i64 .i64 (q : Int) ((q : Int) + 512) q (q + 512) rfl (by simp) (by omega) (by omega)
      rw [show q + 512 - q = 512 by omega] at e1 z1
      have pX := sec_piece4 HSC.out k hlt q hq
      rw [HLL.out] at pX
      rw [pX] at z1
      have htk : L.take (k + 1) = L.take k ++ [L[k]] := List.take_succ_eq_append_getElem hlt
      have hl512 : (L[k]).length = 512 := HSC.out _ (List.getElem_mem hlt)
      generalize L[k] = X at *
      obtain ⟨aL, cL, rfl, hcL, hrL⟩ := hR.formL
      have hsz := hb.size
      have hp := hR.row.lt
      have q0 : wr.cell? ⟨w.heap.size, 0, none⟩ = some (.slice aL ss.length cL) := hR.row.cell 0
      have HR0 := Lib.hid hR
      have hRd := RdAt.drew hR
      have hzd := z1.drew
      have HF := Lib.hid hF; have HBW := Lib.hid hb; have HTK := Lib.hid htk
      have HQ := Lib.hid hq
      have hq1 : q + 512 ≤ 512 * L.length := by omega
      clear hBw pX htk hR z1 hF hb hq
      go_wp2
      refine flowe_begin (F := fun x => w.heap.size ≤ x) hmixed 17 rfl (by repeat (first | exact ps_body | refine ps_then ?_ | refine ps_block ?_)) (fun hps => ?_)
      simp only [List.replicate]
      have kk := (Keep.refl (fun x => w.heap.size ≤ x) (wr)).drew
      refine flowe_take 0 (v := ?_) (a' := ?_) hps rfl (by kernel_rfl) rfl ?_ ?_ ?_
      rotate_left 2
      · intro w' hk; go_simp; try rfl
      · simp only [Act.put, List.setIfInBounds_toArray, List.set_cons_succ, List.set_cons_zero]; try rfl
      refine flowe_take 1 (v := ?_) (a' := ?_) hps rfl (by kernel_rfl) rfl ?_ ?_ ?_
      rotate_left 2
      · intro w' hk; go_simp; try rfl
      · simp only [Act.put, List.setIfInBounds_toArray, List.set_cons_succ, List.set_cons_zero]; try rfl
      refine flowe_take 2 (v := ?_) (a' := ?_) hps rfl (by kernel_rfl) rfl ?_ ?_ ?_
      rotate_left 2
      · intro w' hk; go_simp; try rfl
      · simp only [Act.put, List.setIfInBounds_toArray, List.set_cons_succ, List.set_cons_zero]; try rfl
      refine flowe_take 3 (v := ?_) (a' := ?_) hps rfl (by kernel_rfl) rfl ?_ ?_ ?_
      rotate_left 2
      · intro w' hk; go_simp; try rfl
      · simp only [Act.put, List.setIfInBounds_toArray, List.set_cons_succ, List.set_cons_zero]; try rfl
      refine flowe_take 6 (v := ?_) (a' := ?_) hps rfl (by kernel_rfl) rfl ?_ ?_ ?_
      rotate_left 2
      · intro w' hk; go_simp; try rfl
      · simp only [Act.put, List.setIfInBounds_toArray, List.set_cons_succ, List.set_cons_zero]; try rfl
      refine flowe_take 7 (v := ?_) (a' := ?_) hps rfl (by kernel_rfl) rfl ?_ ?_ ?_
      rotate_left 2
      · intro w' hk; go_simp; try rfl
      · simp only [Act.put, List.setIfInBounds_toArray, List.set_cons_succ, List.set_cons_zero]; try rfl
      refine flowe_take 8 (v := ?_) (a' := ?_) hps rfl (by kernel_rfl) rfl ?_ ?_ ?_
      rotate_left 2
      · intro w' hk; go_simp; try rfl
      · simp only [Act.put, List.setIfInBounds_toArray, List.set_cons_succ, List.set_cons_zero]; try rfl
      refine flowe_take 9 (v := ?_) (a' := ?_) hps rfl (by kernel_rfl) rfl ?_ ?_ ?_
      rotate_left 2
      · intro w' hk; go_simp; try rfl
      · simp only [Act.put, List.setIfInBounds_toArray, List.set_cons_succ, List.set_cons_zero]; try rfl
      refine flowe_take 10 (v := ?_) (a' := ?_) hps rfl (by kernel_rfl) rfl ?_ ?_ ?_
      rotate_left 2
      · intro w' hk; go_simp; try rfl
      · simp only [Act.put, List.setIfInBounds_toArray, List.set_cons_succ, List.set_cons_zero]; try rfl
      refine flowe_any [4, 5] hps (by kernel_rfl) (by simp) (fun i hi => ?_)
      simp only [List.mem_cons, List.not_mem_nil, or_false] at hi
      rcases hi with rfl | rfl
      focus
        refine ⟨_, rfl, rfl, wp_next (fun K hK => ?_)⟩
        have hc0 := hRd.row.cell 0
        simp only [List.getElem?_cons_zero] at hc0
        go_simp
        clear hc0
        refine hK _ _ (flow_step kk ?_ ?_)
        · first | exact kp | exact Keep.refl _ _ | exact (Keep.refl _ _).alloc _
        clear kk hK; try clear kp
        intro kk
        refine flowe_one 5 hps rfl (by kernel_rfl) rfl (wp_next (fun K hK => ?_))
        go_simp
        have hemp := own_empty wr.drew 5 1
        replace hRd := hRd.kept (F := fun _ => False) (.of_below ((Below.refl _ _).alloc (Nat.le_refl _) (.cells #[] 5 (0, 0)))) (fun _ _ h => h)
        replace hzd := hzd.below ((Below.refl _ _).alloc (Nat.le_refl _) (.cells #[] 5 (0, 0)))
        refine hK _ _ (flow_step kk ?_ ?_)
        · first | exact kp | exact Keep.refl _ _ | exact (Keep.refl _ _).alloc _
        clear kk hK; try clear kp
        intro kk
        refine flowe_one 11 hps rfl (by kernel_rfl) rfl (wp_next (fun K hK => ?_))
        refine app_at _ _ 31 rfl wr.drew.heap.size 5 (.int .u8 0) 1 1 Try.underlying31 info_u8 rfl (by decide) _ 0 [] rfl hemp _ _ _ _ rfl hzd (bv_one _) (by omega) (by omega) (by simp) ?_
        intro v8 w8 hown8 kp8 hbl8
        have hs8 : wr.heap.size ≤ w8.heap.size := Nat.le_trans (by simp [World.drew]) kp8.size
        have kp := kp8.mono (G := fun x => w.heap.size ≤ x) (fun k _ hk => by cases hk; exact hsz)
        replace hRd := hRd.kept kp8 (fun x hx e => by have h1 := HR0.out.lt hx; cases e; exact absurd h1 (by show ¬ wr.heap.size < wr.heap.size; omega))
        rw [List.nil_append] at hown8
        have hn8 : ∀ k, v8.ownBlock = some k → wr.heap.size ≤ k := fun k hk => (own_block_lt hown8 hk).1
        have ho8 := own_base hown8 (Nat.zero_le _)
        obtain ⟨a8, c8, rfl, _, _⟩ := Sl.of_owned hown8
        simp only [Nat.zero_add] at ho8 hn8
        simp only [Act.put, List.setIfInBounds_toArray, List.set_cons_succ, List.set_cons_zero, Nat.zero_add]
        clear hemp hzd
        refine hK _ _ (flow_step kk ?_ ?_)
        · first | exact kp | exact Keep.refl _ _ | exact (Keep.refl _ _).alloc _
        clear kk hK; try clear kp
        intro kk
        refine flowe_one 12 hps rfl (by kernel_rfl) rfl (wp_next (fun K hK => ?_))
        go_simp
        have hlit := Sl.lit w8 31 [.slice a8 512 c8] 1 1 rfl (by decide)
        replace hRd := hRd.kept (F := fun _ => False) (.of_below ((Below.refl _ _).alloc (Nat.le_refl _) (.cells #[.slice a8 512 c8] 31 (0, 0)))) (fun _ _ h => h)
        replace ho8 := ho8.alloc (.cells #[.slice a8 512 c8] 31 (0, 0))
        refine hK _ _ (flow_step kk ?_ ?_)
        · first | exact kp | exact Keep.refl _ _ | exact (Keep.refl _ _).alloc _
        clear kk hK; try clear kp
        intro kk
        refine flowe_one 13 hps rfl (by kernel_rfl) rfl (wp_next (fun K hK => ?_))
        refine app_at _ _ 44 rfl 0 31 _ 1 24 Try.underlying44 info_bytes rfl (by decide) (.slice aL ss.length cL) ss.length _ rfl hRd.ownL _ 1 1 _ rfl hlit (by intro u hu; simp only [List.mem_cons, List.not_mem_nil, or_false] at hu; subst hu; rfl) (by omega) (by omega) (Nat.zero_le _) ?_
        intro v10 w10 hown10 kp10 hbl10
        have kp := kp10.mono (G := fun x => w.heap.size ≤ x) (fun k _ hk => HF.out k (.inr (.inl hk)))
        have hbl : ∀ k, v10.ownBlock = some k → w.heap.size ≤ k := fun k hk => hbl10.elim (fun e => HF.out k (.inr (.inl (by rw [← e]; exact hk)))) (fun e => by rw [e] at hk; cases hk; exact Nat.le_trans hsz (Nat.le_trans hs8 (by simp)))
        have hrow := hRd.row.keep kp10 (own_row_ne hRd.ownL hRd.row (by decide))
        have hin : ∀ x ∈ ss, w10.ownsRow 0 5 1 x.2 512 (x.1.map bv) := fun x hx => own_kept (hRd.inner x hx) kp10 (fun k hk hk2 => own_type_ne (hRd.inner x hx) hRd.ownL (by decide) hk hk2)
        replace ho8 := own_kept ho8 kp10 (fun k hk hk2 => own_type_ne ho8 hRd.ownL (by decide) hk hk2)
        obtain ⟨a10, c10, rfl, _, _⟩ := Sl.of_owned hown10
        simp only [Act.put, List.setIfInBounds_toArray, List.set_cons_succ, List.set_cons_zero]
        clear hRd hlit
        refine hK _ _ (flow_step kk ?_ ?_)
        · first | exact kp | exact Keep.refl _ _ | exact (Keep.refl _ _).alloc _
        clear kk hK; try clear kp
        intro kk
        refine flowe_take 14 (v := ?_) (a' := ?_) hps rfl (by kernel_rfl) rfl ?_ ?_ ?_
        rotate_left 2
        · intro w' hk; go_simp; try rfl
        · simp only [Act.put, List.setIfInBounds_toArray, List.set_cons_succ, List.set_cons_zero]; try rfl
        refine flowe_take 15 (v := ?_) (a' := ?_) hps rfl (by kernel_rfl) rfl ?_ ?_ ?_
        rotate_left 2
        · intro w' hk; go_simp; try rfl
        · simp only [Act.put, List.setIfInBounds_toArray, List.set_cons_succ, List.set_cons_zero]; try rfl
        refine flowe_one 16 hps rfl (by kernel_rfl) rfl (wp_next (fun K hK => ?_))
        have hc0 := hrow.cell 0
        simp only [List.getElem?_cons_zero] at hc0
        have hf := hrow.frozen 0
        go_simp
        have kp := (Keep.refl (fun x => w.heap.size ≤ x) w10).setCell (p := ⟨w.heap.size, 0, none⟩) (.inl (Nat.le_refl _)) (.slice a10 (ss.length + 1) c10)
        clear hc0 hf
        refine hK _ _ (flow_step kk ?_ ?_)
        · first | exact kp | exact Keep.refl _ _ | exact (Keep.refl _ _).alloc _
        clear kk hK; try clear kp
        intro kk
        refine flowe_done hps (by kernel_rfl) ?_
      all_goals skip
      rotate_left 1
      focus
        refine ⟨_, rfl, rfl, wp_next (fun K hK => ?_)⟩
        go_simp
        have hemp := own_empty wr.drew 5 1
        replace hRd := hRd.kept (F := fun _ => False) (.of_below ((Below.refl _ _).alloc (Nat.le_refl _) (.cells #[] 5 (0, 0)))) (fun _ _ h => h)
        replace hzd := hzd.below ((Below.refl _ _).alloc (Nat.le_refl _) (.cells #[] 5 (0, 0)))
        refine hK _ _ (flow_step kk ?_ ?_)
        · first | exact kp | exact Keep.refl _ _ | exact (Keep.refl _ _).alloc _
        clear kk hK; try clear kp
        intro kk
        refine flowe_any [4, 11] hps (by kernel_rfl) (by simp) (fun i hi => ?_)
        simp only [List.mem_cons, List.not_mem_nil, or_false] at hi
        rcases hi with rfl | rfl
        focus
          refine ⟨_, rfl, rfl, wp_next (fun K hK => ?_)⟩
          have hc0 := hRd.row.cell 0
          simp only [List.getElem?_cons_zero] at hc0
          go_simp
          clear hc0
          refine hK _ _ (flow_step kk ?_ ?_)
          · first | exact kp | exact Keep.refl _ _ | exact (Keep.refl _ _).alloc _
          clear kk hK; try clear kp
          intro kk
          refine flowe_one 11 hps rfl (by kernel_rfl) rfl (wp_next (fun K hK => ?_))
          refine app_at _ _ 31 rfl wr.drew.heap.size 5 (.int .u8 0) 1 1 Try.underlying31 info_u8 rfl (by decide) _ 0 [] rfl hemp _ _ _ _ rfl hzd (bv_one _) (by omega) (by omega) (by simp) ?_
          intro v8 w8 hown8 kp8 hbl8
          have hs8 : wr.heap.size ≤ w8.heap.size := Nat.le_trans (by simp [World.drew]) kp8.size
          have kp := kp8.mono (G := fun x => w.heap.size ≤ x) (fun k _ hk => by cases hk; exact hsz)
          replace hRd := hRd.kept kp8 (fun x hx e => by have h1 := HR0.out.lt hx; cases e; exact absurd h1 (by show ¬ wr.heap.size < wr.heap.size; omega))
          rw [List.nil_append] at hown8
          have hn8 : ∀ k, v8.ownBlock = some k → wr.heap.size ≤ k := fun k hk => (own_block_lt hown8 hk).1
          have ho8 := own_base hown8 (Nat.zero_le _)
          obtain ⟨a8, c8, rfl, _, _⟩ := Sl.of_owned hown8
          simp only [Nat.zero_add] at ho8 hn8
          simp only [Act.put, List.setIfInBounds_toArray, List.set_cons_succ, List.set_cons_zero, Nat.zero_add]
          clear hemp hzd
          refine hK _ _ (flow_step kk ?_ ?_)
          · first | exact kp | exact Keep.refl _ _ | exact (Keep.refl _ _).alloc _
          clear kk hK; try clear kp
          intro kk
          refine flowe_one 12 hps rfl (by kernel_rfl) rfl (wp_next (fun K hK => ?_))
          go_simp
          have hlit := Sl.lit w8 31 [.slice a8 512 c8] 1 1 rfl (by decide)
          replace hRd := hRd.kept (F := fun _ => False) (.of_below ((Below.refl _ _).alloc (Nat.le_refl _) (.cells #[.slice a8 512 c8] 31 (0, 0)))) (fun _ _ h => h)
          replace ho8 := ho8.alloc (.cells #[.slice a8 512 c8] 31 (0, 0))
          refine hK _ _ (flow_step kk ?_ ?_)
          · first | exact kp | exact Keep.refl _ _ | exact (Keep.refl _ _).alloc _
          clear kk hK; try clear kp
          intro kk
          refine flowe_one 13 hps rfl (by kernel_rfl) rfl (wp_next (fun K hK => ?_))
          refine app_at _ _ 44 rfl 0 31 _ 1 24 Try.underlying44 info_bytes rfl (by decide) (.slice aL ss.length cL) ss.length _ rfl hRd.ownL _ 1 1 _ rfl hlit (by intro u hu; simp only [List.mem_cons, List.not_mem_nil, or_false] at hu; subst hu; rfl) (by omega) (by omega) (Nat.zero_le _) ?_
          intro v10 w10 hown10 kp10 hbl10
          have kp := kp10.mono (G := fun x => w.heap.size ≤ x) (fun k _ hk => HF.out k (.inr (.inl hk)))
          have hbl : ∀ k, v10.ownBlock = some k → w.heap.size ≤ k := fun k hk => hbl10.elim (fun e => HF.out k (.inr (.inl (by rw [← e]; exact hk)))) (fun e => by rw [e] at hk; cases hk; exact Nat.le_trans hsz (Nat.le_trans hs8 (by simp)))
          have hrow := hRd.row.keep kp10 (own_row_ne hRd.ownL hRd.row (by decide))
          have hin : ∀ x ∈ ss, w10.ownsRow 0 5 1 x.2 512 (x.1.map bv) := fun x hx => own_kept (hRd.inner x hx) kp10 (fun k hk hk2 => own_type_ne (hRd.inner x hx) hRd.ownL (by decide) hk hk2)
          replace ho8 := own_kept ho8 kp10 (fun k hk hk2 => own_type_ne ho8 hRd.ownL (by decide) hk hk2)
          obtain ⟨a10, c10, rfl, _, _⟩ := Sl.of_owned hown10
          simp only [Act.put, List.setIfInBounds_toArray, List.set_cons_succ, List.set_cons_zero]
          clear hRd hlit
          refine hK _ _ (flow_step kk ?_ ?_)
          · first | exact kp | exact Keep.refl _ _ | exact (Keep.refl _ _).alloc _
          clear kk hK; try clear kp
          intro kk
          refine flowe_take 14 (v := ?_) (a' := ?_) hps rfl (by kernel_rfl) rfl ?_ ?_ ?_
          rotate_left 2
          · intro w' hk; go_simp; try rfl
          · simp only [Act.put, List.setIfInBounds_toArray, List.set_cons_succ, List.set_cons_zero]; try rfl
          refine flowe_take 15 (v := ?_) (a' := ?_) hps rfl (by kernel_rfl) rfl ?_ ?_ ?_
          rotate_left 2
          · intro w' hk; go_simp; try rfl
          · simp only [Act.put, List.setIfInBounds_toArray, List.set_cons_succ, List.set_cons_zero]; try rfl
          refine flowe_one 16 hps rfl (by kernel_rfl) rfl (wp_next (fun K hK => ?_))
          have hc0 := hrow.cell 0
          simp only [List.getElem?_cons_zero] at hc0
          have hf := hrow.frozen 0
          go_simp
          have kp := (Keep.refl (fun x => w.heap.size ≤ x) w10).setCell (p := ⟨w.heap.size, 0, none⟩) (.inl (Nat.le_refl _)) (.slice a10 (ss.length + 1) c10)
          clear hc0 hf
          refine hK _ _ (flow_step kk ?_ ?_)
          · first | exact kp | exact Keep.refl _ _ | exact (Keep.refl _ _).alloc _
          clear kk hK; try clear kp
          intro kk
          refine flowe_done hps (by kernel_rfl) ?_
        all_goals skip
        rotate_left 1
        focus
          refine ⟨_, rfl, rfl, wp_next (fun K hK => ?_)⟩
          refine app_at _ _ 31 rfl wr.drew.heap.size 5 (.int .u8 0) 1 1 Try.underlying31 info_u8 rfl (by decide) _ 0 [] rfl hemp _ _ _ _ rfl hzd (bv_one _) (by omega) (by omega) (by simp) ?_
          intro v8 w8 hown8 kp8 hbl8
          have hs8 : wr.heap.size ≤ w8.heap.size := Nat.le_trans (by simp [World.drew]) kp8.size
          have kp := kp8.mono (G := fun x => w.heap.size ≤ x) (fun k _ hk => by cases hk; exact hsz)
          replace hRd := hRd.kept kp8 (fun x hx e => by have h1 := HR0.out.lt hx; cases e; exact absurd h1 (by show ¬ wr.heap.size < wr.heap.size; omega))
          rw [List.nil_append] at hown8
          have hn8 : ∀ k, v8.ownBlock = some k → wr.heap.size ≤ k := fun k hk => (own_block_lt hown8 hk).1
          have ho8 := own_base hown8 (Nat.zero_le _)
          obtain ⟨a8, c8, rfl, _, _⟩ := Sl.of_owned hown8
          simp only [Nat.zero_add] at ho8 hn8
          simp only [Act.put, List.setIfInBounds_toArray, List.set_cons_succ, List.set_cons_zero, Nat.zero_add]
          clear hemp hzd
          refine hK _ _ (flow_step kk ?_ ?_)
          · first | exact kp | exact Keep.refl _ _ | exact (Keep.refl _ _).alloc _
          clear kk hK; try clear kp
          intro kk
          refine flowe_any [4, 12] hps (by kernel_rfl) (by simp) (fun i hi => ?_)
          simp only [List.mem_cons, List.not_mem_nil, or_false] at hi
          rcases hi with rfl | rfl
          focus
            refine ⟨_, rfl, rfl, wp_next (fun K hK => ?_)⟩
            have hc0 := hRd.row.cell 0
            simp only [List.getElem?_cons_zero] at hc0
            go_simp
            clear hc0
            refine hK _ _ (flow_step kk ?_ ?_)
            · first | exact kp | exact Keep.refl _ _ | exact (Keep.refl _ _).alloc _
            clear kk hK; try clear kp
            intro kk
            refine flowe_one 12 hps rfl (by kernel_rfl) rfl (wp_next (fun K hK => ?_))
            go_simp
            have hlit := Sl.lit w8 31 [.slice a8 512 c8] 1 1 rfl (by decide)
            replace hRd := hRd.kept (F := fun _ => False) (.of_below ((Below.refl _ _).alloc (Nat.le_refl _) (.cells #[.slice a8 512 c8] 31 (0, 0)))) (fun _ _ h => h)
            replace ho8 := ho8.alloc (.cells #[.slice a8 512 c8] 31 (0, 0))
            refine hK _ _ (flow_step kk ?_ ?_)
            · first | exact kp | exact Keep.refl _ _ | exact (Keep.refl _ _).alloc _
            clear kk hK; try clear kp
            intro kk
            refine flowe_one 13 hps rfl (by kernel_rfl) rfl (wp_next (fun K hK => ?_))
            refine app_at _ _ 44 rfl 0 31 _ 1 24 Try.underlying44 info_bytes rfl (by decide) (.slice aL ss.length cL) ss.length _ rfl hRd.ownL _ 1 1 _ rfl hlit (by intro u hu; simp only [List.mem_cons, List.not_mem_nil, or_false] at hu; subst hu; rfl) (by omega) (by omega) (Nat.zero_le _) ?_
            intro v10 w10 hown10 kp10 hbl10
            have kp := kp10.mono (G := fun x => w.heap.size ≤ x) (fun k _ hk => HF.out k (.inr (.inl hk)))
            have hbl : ∀ k, v10.ownBlock = some k → w.heap.size ≤ k := fun k hk => hbl10.elim (fun e => HF.out k (.inr (.inl (by rw [← e]; exact hk)))) (fun e => by rw [e] at hk; cases hk; exact Nat.le_trans hsz (Nat.le_trans hs8 (by simp)))
            have hrow := hRd.row.keep kp10 (own_row_ne hRd.ownL hRd.row (by decide))
            have hin : ∀ x ∈ ss, w10.ownsRow 0 5 1 x.2 512 (x.1.map bv) := fun x hx => own_kept (hRd.inner x hx) kp10 (fun k hk hk2 => own_type_ne (hRd.inner x hx) hRd.ownL (by decide) hk hk2)
            replace ho8 := own_kept ho8 kp10 (fun k hk hk2 => own_type_ne ho8 hRd.ownL (by decide) hk hk2)
            obtain ⟨a10, c10, rfl, _, _⟩ := Sl.of_owned hown10
            simp only [Act.put, List.setIfInBounds_toArray, List.set_cons_succ, List.set_cons_zero]
            clear hRd hlit
            refine hK _ _ (flow_step kk ?_ ?_)
            · first | exact kp | exact Keep.refl _ _ | exact (Keep.refl _ _).alloc _
            clear kk hK; try clear kp
            intro kk
            refine flowe_take 14 (v := ?_) (a' := ?_) hps rfl (by kernel_rfl) rfl ?_ ?_ ?_
            rotate_left 2
            · intro w' hk; go_simp; try rfl
            · simp only [Act.put, List.setIfInBounds_toArray, List.set_cons_succ, List.set_cons_zero]; try rfl
            refine flowe_take 15 (v := ?_) (a' := ?_) hps rfl (by kernel_rfl) rfl ?_ ?_ ?_
            rotate_left 2
            · intro w' hk; go_simp; try rfl
            · simp only [Act.put, List.setIfInBounds_toArray, List.set_cons_succ, List.set_cons_zero]; try rfl
            refine flowe_one 16 hps rfl (by kernel_rfl) rfl (wp_next (fun K hK => ?_))
            have hc0 := hrow.cell 0
            simp only [List.getElem?_cons_zero] at hc0
            have hf := hrow.frozen 0
            go_simp
            have kp := (Keep.refl (fun x => w.heap.size ≤ x) w10).setCell (p := ⟨w.heap.size, 0, none⟩) (.inl (Nat.le_refl _)) (.slice a10 (ss.length + 1) c10)
            clear hc0 hf
            refine hK _ _ (flow_step kk ?_ ?_)
            · first | exact kp | exact Keep.refl _ _ | exact (Keep.refl _ _).alloc _
            clear kk hK; try clear kp
            intro kk
            refine flowe_done hps (by kernel_rfl) ?_
          all_goals skip
          rotate_left 1
          focus
            refine ⟨_, rfl, rfl, wp_next (fun K hK => ?_)⟩
            go_simp
            have hlit := Sl.lit w8 31 [.slice a8 512 c8] 1 1 rfl (by decide)
            replace hRd := hRd.kept (F := fun _ => False) (.of_below ((Below.refl _ _).alloc (Nat.le_refl _) (.cells #[.slice a8 512 c8] 31 (0, 0)))) (fun _ _ h => h)
            replace ho8 := ho8.alloc (.cells #[.slice a8 512 c8] 31 (0, 0))
            refine hK _ _ (flow_step kk ?_ ?_)
            · first | exact kp | exact Keep.refl _ _ | exact (Keep.refl _ _).alloc _
            clear kk hK; try clear kp
            intro kk
            refine flowe_one 4 hps rfl (by kernel_rfl) rfl (wp_next (fun K hK => ?_))
            have hc0 := hRd.row.cell 0
            simp only [List.getElem?_cons_zero] at hc0
            go_simp
            clear hc0
            refine hK _ _ (flow_step kk ?_ ?_)
            · first | exact kp | exact Keep.refl _ _ | exact (Keep.refl _ _).alloc _
            clear kk hK; try clear kp
            intro kk
            refine flowe_one 13 hps rfl (by kernel_rfl) rfl (wp_next (fun K hK => ?_))
            refine app_at _ _ 44 rfl 0 31 _ 1 24 Try.underlying44 info_bytes rfl (by decide) (.slice aL ss.length cL) ss.length _ rfl hRd.ownL _ 1 1 _ rfl hlit (by intro u hu; simp only [List.mem_cons, List.not_mem_nil, or_false] at hu; subst hu; rfl) (by omega) (by omega) (Nat.zero_le _) ?_
            intro v10 w10 hown10 kp10 hbl10
            have kp := kp10.mono (G := fun x => w.heap.size ≤ x) (fun k _ hk => HF.out k (.inr (.inl hk)))
            have hbl : ∀ k, v10.ownBlock = some k → w.heap.size ≤ k := fun k hk => hbl10.elim (fun e => HF.out k (.inr (.inl (by rw [← e]; exact hk)))) (fun e => by rw [e] at hk; cases hk; exact Nat.le_trans hsz (Nat.le_trans hs8 (by simp)))
            have hrow := hRd.row.keep kp10 (own_row_ne hRd.ownL hRd.row (by decide))
            have hin : ∀ x ∈ ss, w10.ownsRow 0 5 1 x.2 512 (x.1.map bv) := fun x hx => own_kept (hRd.inner x hx) kp10 (fun k hk hk2 => own_type_ne (hRd.inner x hx) hRd.ownL (by decide) hk hk2)
            replace ho8 := own_kept ho8 kp10 (fun k hk hk2 => own_type_ne ho8 hRd.ownL (by decide) hk hk2)
            obtain ⟨a10, c10, rfl, _, _⟩ := Sl.of_owned hown10
            simp only [Act.put, List.setIfInBounds_toArray, List.set_cons_succ, List.set_cons_zero]
            clear hRd hlit
            refine hK _ _ (flow_step kk ?_ ?_)
            · first | exact kp | exact Keep.refl _ _ | exact (Keep.refl _ _).alloc _
            clear kk hK; try clear kp
            intro kk
            refine flowe_take 14 (v := ?_) (a' := ?_) hps rfl (by kernel_rfl) rfl ?_ ?_ ?_
            rotate_left 2
            · intro w' hk; go_simp; try rfl
            · simp only [Act.put, List.setIfInBounds_toArray, List.set_cons_succ, List.set_cons_zero]; try rfl
            refine flowe_take 15 (v := ?_) (a' := ?_) hps rfl (by kernel_rfl) rfl ?_ ?_ ?_
            rotate_left 2
            · intro w' hk; go_simp; try rfl
            · simp only [Act.put, List.setIfInBounds_toArray, List.set_cons_succ, List.set_cons_zero]; try rfl
            refine flowe_one 16 hps rfl (by kernel_rfl) rfl (wp_next (fun K hK => ?_))
            have hc0 := hrow.cell 0
            simp only [List.getElem?_cons_zero] at hc0
            have hf := hrow.frozen 0
            go_simp
            have kp := (Keep.refl (fun x => w.heap.size ≤ x) w10).setCell (p := ⟨w.heap.size, 0, none⟩) (.inl (Nat.le_refl _)) (.slice a10 (ss.length + 1) c10)
            clear hc0 hf
            refine hK _ _ (flow_step kk ?_ ?_)
            · first | exact kp | exact Keep.refl _ _ | exact (Keep.refl _ _).alloc _
            clear kk hK; try clear kp
            intro kk
            refine flowe_done hps (by kernel_rfl) ?_
          all_goals skip
          rotate_left 1
        all_goals skip
        rotate_left 2
      all_goals skip
      rotate_left 3
      all_goals
        have HD := Lib.hid hown10; have HK := Lib.hid kk; have HRW := Lib.hid hrow; have H8 := Lib.hid ho8; have HN := Lib.hid hn8; have HBL := Lib.hid hbl; have HIN := Lib.hid hin
        clear hown10 kk hrow ho8 hn8 hbl hbl10 hin
        go_wp2
        have hq := HQ.out
        have r := HRW.out.set 0 (.slice a10 (ss.length + 1) c10)
        have ks := (Keep.refl (· = w.heap.size) w10).setCell (p := ⟨w.heap.size, 0, none⟩) (.inl rfl) (.slice a10 (ss.length + 1) c10)
        refine ⟨⟨k + 1, .slice a10 (ss.length + 1) c10, ss ++ [(X, .slice a8 512 c8)], by omega, by congr 1; omega, ⟨r, ?_, World.ownsRow_nil _ _ _ _, ?_, rfl, ?_, (fun x hx => by cases hx)⟩, ?_, HBW.out.trans (HK.out.below hsz fun x hx hf => by omega)⟩, by simp [intOf]; omega⟩
        · have := own_kept HD.out ks fun k hk e => own_row_ne HD.out HRW.out (by decide) (e ▸ hk)
          exact ownsRow_map this (by simp) (by simp)
        · show L.take (k + 1) = _
          rw [HTK.out, List.map_append, ← HR0.out.secs]; rfl
        · intro x hx
          rcases List.mem_append.1 hx with hx | hx
          · exact own_kept (HIN.out x hx) ks fun k hk e => own_row_ne (HIN.out x hx) HRW.out (by decide) (e ▸ hk)
          · obtain rfl := List.mem_singleton.1 hx
            exact own_kept (ownsRow_map H8.out rfl rfl) ks fun k hk e => own_row_ne H8.out HRW.out (by decide) (e ▸ hk)
        · rintro x (rfl | h | h | ⟨y, hy, h⟩ | ⟨y, hy, _⟩)
          · exact Nat.le_refl _
          · exact HBL.out x h
          · cases h
          · rcases List.mem_append.1 hy with hy | hy
            · exact HF.out x (.inr (.inr (.inr (.inl ⟨y, hy, h⟩))))
            · obtain rfl := List.mem_singleton.1 hy
              exact Nat.le_trans hsz (HN.out x h)
          · cases hy
    · obtain rfl : k = L.length := by omega
      have HR0 := Lib.hid hR; have HF := Lib.hid hF; have HBW := Lib.hid hb
      have hq1 : q = 512 * L.length := hq
      clear hR hF hb hq
      go_wp2
      go_ret
      rw [List.take_length] at HR0
      exact ⟨_, rfl, ⟨_, _, ss, [], HR0.out, ⟨HSC.out, ⟨h2, h3⟩, (fun x hx => by cases hx), by show (-1 : Int) ≤ -1 ∧ (-1 : Int) ≤ _; decide⟩, HF.out⟩, Nat.le_refl _, HBW.out⟩
end Go.Proofs.Ytjijniillehfoaa
