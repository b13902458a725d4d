import Derived.Test.YtibjcadingedaaaLSlot
import Derived.Test.YtibjcadingedaaaTurnP
import Derived.Test.YtibjcadingedaaaArBase
import Derived.Deep.QuietTactic
import Derived.BigQuiet
namespace Go.Proofs.Ytibjcadingedaaa
open Go Go.RowKit Go.Own
set_option linter.unusedVariables false
theorem own_some {w : World} {B z n : Nat} {e : TypeId} {v : Value} {l : List Value} (h : w.ownsRow B e z v n l) (h0 : 0 < l.length) :
    ∃ g cap cur, v = .slice (some ⟨g, 0, none⟩) n cap ∧ B ≤ g ∧ w.heap[g]? = some (.cells cur e (0, 0)) ∧ n ≤ cap ∧ cap ≤ 9223372036854775807 ∧ cur.size = cap * z ∧ cur.toList.take (n * z) = l := by
  obtain ⟨h1, h2⟩ := h
  rcases h2 with ⟨rfl, h2⟩ | ⟨g, cap, cur, a0, a1, a2, a3, a4, a5, a6⟩
  · subst h2; simp at h1; subst h1; simp at h0
  · exact ⟨g, cap, cur, a0, a1, a2, a3, a4, a5, a6⟩
theorem own_cell {w : World} {B n cap g : Nat} {e : TypeId} {l : List Value} (h : w.ownsRow B e 1 (.slice (some ⟨g, 0, none⟩) n cap) n l) (i : Nat) (hi : i < n) :
    w.cell? ⟨g, i, none⟩ = l[i]? ∧ w.frozen? ⟨g, i, none⟩ = false := by
  obtain ⟨h1, h2⟩ := h
  rcases h2 with ⟨h2, _⟩ | ⟨g', cap', cur, h2, a1, a2, a3, a4, a5, a6⟩
  · cases h2
  · cases h2
    simp only [Nat.mul_one] at a6
    refine ⟨?_, by simp [World.frozen?, a2]⟩
    rw [← a6, List.getElem?_take, if_pos hi]
    simp [World.cell?, a2]
theorem own_set {w : World} {B n cap g : Nat} {e : TypeId} {l : List Value} (h : w.ownsRow B e 1 (.slice (some ⟨g, 0, none⟩) n cap) n l) (i : Nat) (hi : i < n) (u : Value) :
    (w.setCell ⟨g, i, none⟩ u).ownsRow B e 1 (.slice (some ⟨g, 0, none⟩) n cap) n (l.set i u) := by
  obtain ⟨h1, h2⟩ := h
  rcases h2 with ⟨h2, _⟩ | ⟨g', cap', cur, h2, a1, a2, a3, a4, a5, a6⟩
  · cases h2
  · cases h2
    simp only [Nat.mul_one] at h1 a5 a6
    refine ⟨by simpa using h1, .inr ⟨g, cap, cur.setIfInBounds i u, rfl, a1, blk_set a2 i u, a3, a4, by simpa using a5, ?_⟩⟩
    rw [← a6, Array.toList_setIfInBounds, Nat.mul_one, List.take_set]
theorem bs_own' {w' : World} {n : Nat} {l : List UInt8} {v : Value} {B : Nat} (h : w'.ownsRow B 5 1 v n (l.map bv)) : ∃ a c, v = .slice a n c ∧ (∀ p, a = some p → B ≤ p.block) ∧ Bs w' a n c l := Sl.of_owned h
theorem bv_xor (x : UInt8) (q : Nat) : bv (x ^^^ UInt8.ofNat q) = .int .u8 ((x.toNat ^^^ (q % 256) : Nat) : Int) := by
  unfold bv; rw [UInt8.toNat_xor, UInt8.toNat_ofNat']
set_option maxRecDepth 100000 in
set_option maxHeartbeats 8000000 in
theorem slotBack (w : World) (gi si mi : Int) (a : Option Addr) (n c : Nat) (l : List UInt8) (ai xi : Int) (hg : (Lit.int .u64 gi).wf = true) (hs : (Lit.int .u64 si).wf = true) (hm : (Lit.int .u32 mi).wf = true) (h : Bs w a n c l)
    (ha : (Lit.int .i64 ai).wf = true) (hx : (Lit.int .u32 xi).wf = true) :
    Calls Try.prog 14 #[.int .u64 gi, .int .u64 si, .int .u32 mi, .slice a n c, .int .i64 ai, .int .u32 xi] w fun e w' => e = .returned (.bool true) ∧ Below w.heap.size w w' := by
  obtain ⟨g0, g1⟩ := wfU64 hg
  obtain ⟨s0, s1⟩ := wfU64 hs
  obtain ⟨m0, m1⟩ := wfU32 hm
  obtain ⟨x0, x1⟩ := wfU32 hx
  obtain ⟨a0, a1⟩ := wfI64 ha
  obtain ⟨g, rfl⟩ : ∃ g : Nat, gi = g := ⟨gi.toNat, by omega⟩
  obtain ⟨s, rfl⟩ : ∃ g : Nat, si = g := ⟨si.toNat, by omega⟩
  obtain ⟨m, rfl⟩ : ∃ g : Nat, mi = g := ⟨mi.toNat, by omega⟩
  obtain ⟨x, rfl⟩ : ∃ g : Nat, xi = g := ⟨xi.toNat, by omega⟩
  clear hg hs hm ha hx
  have hn := h.len
  subst hn
  have H := Lib.hid h; clear h
  go_enter Try.func14, Try.ntmps14
  go_wp2_with fail
  refine (up17 _).mono ?_
  rintro e w1 ⟨rfl, b1⟩
  have hB1 := H.out.below b1
  by_cases hl : l.length > 2000
  · go_wp2
    go_ret
    exact ⟨rfl, b1⟩
  by_cases ha0 : ai < 0
  · go_wp2
    go_ret
    exact ⟨rfl, b1⟩
  by_cases ha5 : ai > 508
  · go_wp2
    go_ret
    exact ⟨rfl, b1⟩
  obtain ⟨at_, rfl⟩ : ∃ g : Nat, ai = g := ⟨ai.toNat, by omega⟩
  have HB1 := Lib.hid hB1; have B1 := Lib.hid b1; clear hB1 b1 H
  go_wp2_with fail
  refine (slot_Get _ _ _ _ _ HB1.out).mono ?_
  rintro e w2 ⟨rfl, b2⟩
  have HB2 := Lib.hid (HB1.out.below b2)
  have B2 := Lib.hid (B1.out.trans (b2.mono B1.out.size))
  obtain ⟨G, S, M, I, hR, hI⟩ : ∃ (G S M : Nat) (I : Bool), recV l = .tuple #[.agg #[.int .u64 G, .int .u64 S, .int .u32 M], .bool I] ∧ (I = true → recB G S M = l ∧ G < 18446744073709551616 ∧ S < 18446744073709551616 ∧ M < 4294967296) := by
    refine ⟨_, _, _, _, rfl, fun hi => ?_⟩
    have hd : recOk (fld l 8 8) (fld l 16 8) = true ∧ recB (fld l 8 8) (fld l 16 8) (fld l 24 4) = l := of_decide_eq_true hi
    unfold rg rs rm
    rw [hi, if_pos rfl, if_pos rfl, if_pos rfl]
    have f : ∀ i k, fld l i k < 256 ^ k := fun i k => Nat.lt_of_lt_of_le (num_lt _) (Nat.pow_le_pow_right (by decide) (List.length_take_le _ _))
    exact ⟨hd.2, f 8 8, f 16 8, f 24 4⟩
  have HI := Lib.hid hI
  rw [hR]
  clear hR hI
  clear b2 HB1 B1
  go_wp2_with (first
    | (refine alloc_row rfl 63 rfl _ _ _ info_rec [.int .u64 0, .int .u64 0, .int .u32 0] rfl ?_)
    | (refine store_row rfl 63 _ _ rfl w2.heap.size rfl [.int .u64 G, .int .u64 S, .int .u32 M] rfl _ [.int .u64 0, .int .u64 0, .int .u32 0] (Row.made _ _ _) size_rec rfl (by simp [Value.oneCell']) ?_; intro w3 hr3 hk3))
  have b3 : Below w2.heap.size w2 w3 := ((Below.refl _ _).alloc (Nat.le_refl _) _).trans (hk3.below (by simp) (fun k hk => by omega))
  have HB3 := Lib.hid (HB2.out.below b3)
  have B3 := Lib.hid (B2.out.trans (b3.mono B2.out.size))
  have hr3d := hr3.drew
  have hB3d := HB3.out.drew
  cases I with
  | true =>
    obtain ⟨i1, i2, i3, i4⟩ := HI.out rfl
    have I1 := Lib.hid i1
    clear i1 HI
    refine flowe_begin (F := fun _ => False) hmixed 9 rfl (by repeat (first | exact ps_body | refine ps_then ?_ | refine ps_block ?_)) (fun hps => ?_)
    simp only [List.replicate]
    have kk := (Keep.refl (fun _ => False) (w3)).drew
    refine flowe_take 0 (v := ?_) (a' := ?_) hps rfl (by kernel_rfl) rfl ?_ ?_ ?_
    rotate_left 2
    · intro w' hk; go_simp; try rfl
    · simp only [Act.put, List.setIfInBounds_toArray, List.set_cons_succ, List.set_cons_zero]; try rfl
    refine flowe_take 1 (v := ?_) (a' := ?_) hps rfl (by kernel_rfl) rfl ?_ ?_ ?_
    rotate_left 2
    · intro w' hk; go_simp; try rfl
    · simp only [Act.put, List.setIfInBounds_toArray, List.set_cons_succ, List.set_cons_zero]; try rfl
    refine flowe_take 2 (v := ?_) (a' := ?_) hps rfl (by kernel_rfl) rfl ?_ ?_ ?_
    rotate_left 2
    · intro w' hk; have hr := hr3d.keep hk (fun h => h); have q0 : w'.cell? ⟨w2.heap.size, 0, none⟩ = some (.int .u64 G) := hr.cell 0; have q1 : w'.cell? ⟨w2.heap.size, 1, none⟩ = some (.int .u64 S) := hr.cell 1; have q2 : w'.cell? ⟨w2.heap.size, 2, none⟩ = some (.int .u32 M) := hr.cell 2; go_simp; try rfl
    · simp only [Act.put, List.setIfInBounds_toArray, List.set_cons_succ, List.set_cons_zero]; try rfl
    refine flowe_take 5 (v := ?_) (a' := ?_) hps rfl (by kernel_rfl) rfl ?_ ?_ ?_
    rotate_left 2
    · intro w' hk; go_simp; try rfl
    · simp only [Act.put, List.setIfInBounds_toArray, List.set_cons_succ, List.set_cons_zero]; try rfl
    refine flowe_take 6 (v := ?_) (a' := ?_) hps rfl (by kernel_rfl) rfl ?_ ?_ ?_
    rotate_left 2
    · intro w' hk; first | (have hs := run_s w' (hB5.keep hk (fun _ _ h => h)); go_simp; rfl) | (have hs := run_s w' (hB3d.keep hk (fun _ _ h => h)); go_simp; rfl)
    · simp only [Act.put, List.setIfInBounds_toArray, List.set_cons_succ, List.set_cons_zero]; try rfl
    refine flowe_one 3 hps rfl (by kernel_rfl) rfl (wp_next (fun K hK => ?_))
    go_simp
    go_at_call 47
    refine (slot_Put _ G S M i2 i3 i4).mono ?_
    rintro e w4 ⟨a4, n4, c4, rfl, hB4, hn4, hb4⟩
    rw [I1.out] at hB4
    have hB5 := hB3d.below hb4
    have kp := Keep.of_below (F := fun _ => False) hb4
    refine hK _ _ (flow_step kk ?_ ?_)
    · first | exact kp | exact Keep.refl _ _ | exact (Keep.refl _ _).alloc _
    clear kk hK; try clear kp
    intro kk
    refine flowe_take 4 (v := ?_) (a' := ?_) hps rfl (by kernel_rfl) rfl ?_ ?_ ?_
    rotate_left 2
    · intro w' hk; have hs := run_s w' (hB4.keep hk (fun _ _ h => h)); go_simp; try rfl
    · simp only [Act.put, List.setIfInBounds_toArray, List.set_cons_succ, List.set_cons_zero]; try rfl
    refine flowe_take 7 (v := ?_) (a' := ?_) hps rfl (by kernel_rfl) rfl ?_ ?_ ?_
    rotate_left 2
    · intro w' hk; go_simp; try rfl
    · simp only [Act.put, List.setIfInBounds_toArray, List.set_cons_succ, List.set_cons_zero]; try rfl
    refine flowe_take 8 (v := ?_) (a' := ?_) hps rfl (by kernel_rfl) rfl ?_ ?_ ?_
    rotate_left 2
    · intro w' hk; go_simp; try rfl
    · simp only [Act.put, List.setIfInBounds_toArray, List.set_cons_succ, List.set_cons_zero]; try rfl
    refine flowe_done hps (by kernel_rfl) ?_
    have BW := Lib.hid (B3.out.trans (kk.below B3.out.size (fun _ _ h => h)))
    clear kk hn4 hb4 hB4 hB5 hB3d hr3d HB3 B3 b3 hk3 hr3 HB2 B2 I1 i2 i3 i4
    go_wp2_with (first
      | (refine alloc_row rfl 63 rfl _ _ _ info_rec [.int .u64 0, .int .u64 0, .int .u32 0] rfl ?_)
      | (refine store_row rfl 63 _ _ rfl w4.heap.size rfl [.int .u64 g, .int .u64 s, .int .u32 m] rfl _ [.int .u64 0, .int .u64 0, .int .u32 0] (Row.made _ _ _) size_rec rfl (by simp [Value.oneCell']) ?_; intro w5 hr5 hk5; have q0 : w5.cell? ⟨w4.heap.size, 0, none⟩ = some (.int .u64 g) := hr5.cell 0; have q1 : w5.cell? ⟨w4.heap.size, 1, none⟩ = some (.int .u64 s) := hr5.cell 1; have q2 : w5.cell? ⟨w4.heap.size, 2, none⟩ = some (.int .u32 m) := hr5.cell 2))
    clear q0 q1 q2
    have b5 : Below w4.heap.size w4 w5 := ((Below.refl _ _).alloc (Nat.le_refl _) _).trans (hk5.below (by simp) (fun k hk => by omega))
    have B5 := Lib.hid (BW.out.trans (b5.mono BW.out.size))
    have R5 := Lib.hid hr5
    clear hk5 b5 BW hr5
    refine (slot_PutO w5 g s m (by omega) (by omega) (by omega)).mono ?_
    rintro e w6 ⟨v6, rfl, o6, b6⟩
    have B6 := Lib.hid (B5.out.trans (b6.mono B5.out.size))
    have R6 := Lib.hid (R5.out.below b6)
    have S6 := b6.size
    have BS5 := Lib.hid B5.out.size
    clear b6 B5
    cases hk : recOk g s with
    | false =>
      rw [recB_none g s m hk] at o6
      obtain ⟨a6, c6, rfl, _, _⟩ := Sl.of_owned o6
      clear o6 hk
      go_wp2
      go_ret
      exact ⟨rfl, B6.out⟩
    | true =>
      have hrec := recV_put (g := g) (len := s) (sum := m) hk (by omega)
      have hlen := recB_length g s m hk
      have hturn := rec_turn g s m hk
      obtain ⟨L, hL⟩ : ∃ L, L = recB g s m := ⟨_, rfl⟩
      rw [← hL] at o6 hrec hlen
      obtain ⟨gg, cap, cur, rfl, hgg, _, hcap, hroom, _, _⟩ := own_some o6 (by simp; omega)
      rw [hlen] at o6 hcap ⊢
      obtain ⟨a6, c6, hv6, _, hB6⟩ := bs_own' o6
      cases hv6
      have O6 := Lib.hid o6; have HREC := Lib.hid hrec; have HLEN := Lib.hid hlen; have HT := Lib.hid hturn; have HL := Lib.hid hL; have HB6 := Lib.hid hB6
      clear o6 hrec hlen hturn hL hB6 hk
      go_wp2_with fail
      refine (slot_Get _ _ _ _ _ HB6.out).mono ?_
      rintro e w7 ⟨rfl, b7⟩
      rw [HREC.out]
      have B7 := Lib.hid (B6.out.trans (b7.mono B6.out.size))
      have R7 := Lib.hid (R6.out.below b7)
      have O7 := Lib.hid (own_below O6.out b7)
      have S7 := b7.size
      have T6 := R6.out.lt
      clear b7 B6 O6 HB6 R5 R6
      go_wp2_with (first
        | (refine alloc_row rfl 63 rfl _ _ _ info_rec [.int .u64 0, .int .u64 0, .int .u32 0] rfl ?_)
        | (refine store_row rfl 63 _ _ rfl w7.heap.size rfl [.int .u64 g, .int .u64 s, .int .u32 m] rfl _ [.int .u64 0, .int .u64 0, .int .u32 0] (Row.made _ _ _) size_rec rfl (by simp [Value.oneCell']) ?_; intro w8 hr8 hk8; have b8 : Below w7.heap.size w7 w8 := ((Below.refl _ _).alloc (Nat.le_refl _) _).trans (hk8.below (by simp) (fun k hk => by omega)); have hr9 := R7.out.below b8; have q0 : w8.cell? ⟨w7.heap.size, 0, none⟩ = some (.int .u64 g) := hr8.cell 0; have q1 : w8.cell? ⟨w7.heap.size, 1, none⟩ = some (.int .u64 s) := hr8.cell 1; have q2 : w8.cell? ⟨w7.heap.size, 2, none⟩ = some (.int .u32 m) := hr8.cell 2; have p0 : w8.cell? ⟨w4.heap.size, 0, none⟩ = some (.int .u64 g) := hr9.cell 0; have p1 : w8.cell? ⟨w4.heap.size, 1, none⟩ = some (.int .u64 s) := hr9.cell 1; have p2 : w8.cell? ⟨w4.heap.size, 2, none⟩ = some (.int .u32 m) := hr9.cell 2))
      · go_ret
        exact ⟨rfl, B7.out.trans (b8.mono B7.out.size)⟩
      · have hxne : x ≠ 0 := fun e => by
          have hq : ((x : Int) == 0) = false := by assumption
          rw [e] at hq; simp at hq
        have O8 := Lib.hid (own_below O7.out b8)
        have B8 := Lib.hid (B7.out.trans (b8.mono B7.out.size))
        have S5 := BS5.out
        clear hr9 q0 q1 q2 p0 p1 p2 hr8 hk8 b8 B7 O7 R7
        go_loopw [5, 20] (fun b j wr => ∃ k : Nat, k ≤ 4 ∧ j = .int .i64 k ∧ b = .int .u32 (x / 256 ^ k : Nat) ∧ wr.ownsRow w5.heap.size 5 1 (.slice (some ⟨gg, 0, none⟩) 512 cap) 512 ((turn L at_ x k).map bv) ∧ Below w.heap.size w wr) (fun _ j _ => 4 - (intOf j).toNat)
        case atStart => exact ⟨0, by omega, rfl, by simp, O8.out, B8.out⟩
        case round =>
          obtain ⟨k, hk4, rfl, rfl, ho, hb⟩ := hrel
          by_cases hlt : k < 4
          · have hll : (turn L at_ x k).length = 512 := (turn_length L at_ x k).trans HLEN.out
            obtain ⟨hc1, hf1⟩ := own_cell ho (at_ + k) (by omega)
            have hget : ((turn L at_ x k).map bv)[at_ + k]? = some (bv ((turn L at_ x k).getD (at_ + k) 0)) := by
              rw [List.getElem?_map, List.getElem?_eq_getElem (by omega)]
              simp [List.getD, List.getElem?_eq_getElem (show at_ + k < (turn L at_ x k).length by omega)]
            rw [hget] at hc1
            have hset := own_set ho (at_ + k) (by omega) (bv ((turn L at_ x k).getD (at_ + k) 0 ^^^ UInt8.ofNat (x / 256 ^ k)))
            have hb2 := hb.setCell (p := ⟨gg, at_ + k, none⟩) (show w.heap.size ≤ gg by omega) (bv ((turn L at_ x k).getD (at_ + k) 0 ^^^ UInt8.ofNat (x / 256 ^ k)))
            rw [← List.map_set] at hset
            rw [bv_xor] at hset hb2
            have hq : x / 256 ^ k ≤ x := Nat.div_le_self _ _
            have hnx : x / 256 ^ (k + 1) = x / 256 ^ k / 256 := by rw [Nat.div_div_eq_div_mul, Nat.pow_succ]
            generalize hxk : x / 256 ^ k = q at *
            generalize hy : (turn L at_ x k).getD (at_ + k) 0 = y at *
            have hy8 := y.toNat_lt
            have hxor : bits .xor .u8 (y.toNat : Int) ((q : Int) % 256) = ((y.toNat ^^^ (q % 256) : Nat) : Int) := by
              have he : ((q % 256 : Nat) : Int) = (q : Int) % 256 := by simp
              rw [← he]
              exact u8_xor_nat y.toNat (q % 256) (by omega) (by omega)
            have hstep : turn L at_ x (k + 1) = (turn L at_ x k).set (at_ + k) (y ^^^ UInt8.ofNat q) := by
              show (turn L at_ x k).set (at_ + k) ((turn L at_ x k).getD (at_ + k) 0 ^^^ UInt8.ofNat (x / 256 ^ k)) = _
              rw [hy, hxk]
            unfold bv at hc1
            generalize y.toNat = Y at hc1 hset hb2 hxor hy8
            have HSET := Lib.hid hset; have HB2 := Lib.hid hb2; have HNX := Lib.hid hnx; have HST := Lib.hid hstep
            clear hset hb2 hnx hstep hxk hy hget hll ho hb O8
            go_wp2
            exact ⟨⟨k + 1, by omega, by go_num, by rw [HNX.out]; simp, by rw [HST.out]; exact HSET.out, HB2.out⟩, by simp [intOf]; omega⟩
          · obtain rfl : k = 4 := by omega
            obtain ⟨aq, cq, hvq, _, hBq⟩ := bs_own' ho
            cases hvq
            obtain ⟨p, sf, mm, hL4, hp4, hm4, ht4⟩ := turn_any L at_ x (by rw [HLEN.out]; omega)
            have hrec : isRec (turn L at_ x 4) = false := by
              rw [ht4]
              exact HT.out p sf mm (mm ^^^ x) hm4 (Nat.xor_lt_two_pow (n := 32) hm4 (by omega)) (xor_ne mm x hxne) (by rw [← HL.out]; exact hL4)
            have HREC2 := Lib.hid hrec; have HBQ := Lib.hid hBq; have HB := Lib.hid hb
            clear hrec hBq hb ho hL4 hp4 ht4 O8
            go_wp2_with fail
            refine (slot_Get _ _ _ _ _ HBQ.out).mono ?_
            rintro e w9 ⟨rfl, b9⟩
            rw [recV_none HREC2.out]
            have B9 := Lib.hid (HB.out.trans (b9.mono HB.out.size))
            clear b9 HB HBQ
            go_wp2_with (first
              | (refine alloc_row rfl 63 rfl _ _ _ info_rec [.int .u64 0, .int .u64 0, .int .u32 0] rfl ?_)
              | (refine store_row rfl 63 _ _ rfl w9.heap.size rfl [.int .u64 0, .int .u64 0, .int .u32 0] rfl _ [.int .u64 0, .int .u64 0, .int .u32 0] (Row.made _ _ _) size_rec rfl (by simp [Value.oneCell']) ?_; intro w10 hr10 hk10))
            have b10 : Below w9.heap.size w9 w10 := ((Below.refl _ _).alloc (Nat.le_refl _) _).trans (hk10.below (by simp) (fun k hk => by omega))
            go_ret
            exact ⟨rfl, B9.out.trans (b10.mono B9.out.size)⟩
  | false =>
    clear HI
    go_quiet (fail)
    obtain ⟨w4, hw4⟩ : ∃ w4, w4 = w3.drewN nq := ⟨_, rfl⟩
    rw [← hw4]
    have BW := Lib.hid (below_drewN B3.out nq)
    rw [← hw4] at BW
    clear hw4 hB3d hr3d HB3 B3 b3 hk3 hr3 HB2 B2
    go_wp2_with (first
      | (refine alloc_row rfl 63 rfl _ _ _ info_rec [.int .u64 0, .int .u64 0, .int .u32 0] rfl ?_)
      | (refine store_row rfl 63 _ _ rfl w4.heap.size rfl [.int .u64 g, .int .u64 s, .int .u32 m] rfl _ [.int .u64 0, .int .u64 0, .int .u32 0] (Row.made _ _ _) size_rec rfl (by simp [Value.oneCell']) ?_; intro w5 hr5 hk5; have q0 : w5.cell? ⟨w4.heap.size, 0, none⟩ = some (.int .u64 g) := hr5.cell 0; have q1 : w5.cell? ⟨w4.heap.size, 1, none⟩ = some (.int .u64 s) := hr5.cell 1; have q2 : w5.cell? ⟨w4.heap.size, 2, none⟩ = some (.int .u32 m) := hr5.cell 2))
    clear q0 q1 q2
    have b5 : Below w4.heap.size w4 w5 := ((Below.refl _ _).alloc (Nat.le_refl _) _).trans (hk5.below (by simp) (fun k hk => by omega))
    have B5 := Lib.hid (BW.out.trans (b5.mono BW.out.size))
    have R5 := Lib.hid hr5
    clear hk5 b5 BW hr5
    refine (slot_PutO w5 g s m (by omega) (by omega) (by omega)).mono ?_
    rintro e w6 ⟨v6, rfl, o6, b6⟩
    have B6 := Lib.hid (B5.out.trans (b6.mono B5.out.size))
    have R6 := Lib.hid (R5.out.below b6)
    have S6 := b6.size
    have BS5 := Lib.hid B5.out.size
    clear b6 B5
    cases hk : recOk g s with
    | false =>
      rw [recB_none g s m hk] at o6
      obtain ⟨a6, c6, rfl, _, _⟩ := Sl.of_owned o6
      clear o6 hk
      go_wp2
      go_ret
      exact ⟨rfl, B6.out⟩
    | true =>
      have hrec := recV_put (g := g) (len := s) (sum := m) hk (by omega)
      have hlen := recB_length g s m hk
      have hturn := rec_turn g s m hk
      obtain ⟨L, hL⟩ : ∃ L, L = recB g s m := ⟨_, rfl⟩
      rw [← hL] at o6 hrec hlen
      obtain ⟨gg, cap, cur, rfl, hgg, _, hcap, hroom, _, _⟩ := own_some o6 (by simp; omega)
      rw [hlen] at o6 hcap ⊢
      obtain ⟨a6, c6, hv6, _, hB6⟩ := bs_own' o6
      cases hv6
      have O6 := Lib.hid o6; have HREC := Lib.hid hrec; have HLEN := Lib.hid hlen; have HT := Lib.hid hturn; have HL := Lib.hid hL; have HB6 := Lib.hid hB6
      clear o6 hrec hlen hturn hL hB6 hk
      go_wp2_with fail
      refine (slot_Get _ _ _ _ _ HB6.out).mono ?_
      rintro e w7 ⟨rfl, b7⟩
      rw [HREC.out]
      have B7 := Lib.hid (B6.out.trans (b7.mono B6.out.size))
      have R7 := Lib.hid (R6.out.below b7)
      have O7 := Lib.hid (own_below O6.out b7)
      have S7 := b7.size
      have T6 := R6.out.lt
      clear b7 B6 O6 HB6 R5 R6
      go_wp2_with (first
        | (refine alloc_row rfl 63 rfl _ _ _ info_rec [.int .u64 0, .int .u64 0, .int .u32 0] rfl ?_)
        | (refine store_row rfl 63 _ _ rfl w7.heap.size rfl [.int .u64 g, .int .u64 s, .int .u32 m] rfl _ [.int .u64 0, .int .u64 0, .int .u32 0] (Row.made _ _ _) size_rec rfl (by simp [Value.oneCell']) ?_; intro w8 hr8 hk8; have b8 : Below w7.heap.size w7 w8 := ((Below.refl _ _).alloc (Nat.le_refl _) _).trans (hk8.below (by simp) (fun k hk => by omega)); have hr9 := R7.out.below b8; have q0 : w8.cell? ⟨w7.heap.size, 0, none⟩ = some (.int .u64 g) := hr8.cell 0; have q1 : w8.cell? ⟨w7.heap.size, 1, none⟩ = some (.int .u64 s) := hr8.cell 1; have q2 : w8.cell? ⟨w7.heap.size, 2, none⟩ = some (.int .u32 m) := hr8.cell 2; have p0 : w8.cell? ⟨w4.heap.size, 0, none⟩ = some (.int .u64 g) := hr9.cell 0; have p1 : w8.cell? ⟨w4.heap.size, 1, none⟩ = some (.int .u64 s) := hr9.cell 1; have p2 : w8.cell? ⟨w4.heap.size, 2, none⟩ = some (.int .u32 m) := hr9.cell 2))
      · go_ret
        exact ⟨rfl, B7.out.trans (b8.mono B7.out.size)⟩
      · have hxne : x ≠ 0 := fun e => by
          have hq : ((x : Int) == 0) = false := by assumption
          rw [e] at hq; simp at hq
        have O8 := Lib.hid (own_below O7.out b8)
        have B8 := Lib.hid (B7.out.trans (b8.mono B7.out.size))
        have S5 := BS5.out
        clear hr9 q0 q1 q2 p0 p1 p2 hr8 hk8 b8 B7 O7 R7
        go_loopw [5, 20] (fun b j wr => ∃ k : Nat, k ≤ 4 ∧ j = .int .i64 k ∧ b = .int .u32 (x / 256 ^ k : Nat) ∧ wr.ownsRow w5.heap.size 5 1 (.slice (some ⟨gg, 0, none⟩) 512 cap) 512 ((turn L at_ x k).map bv) ∧ Below w.heap.size w wr) (fun _ j _ => 4 - (intOf j).toNat)
        case atStart => exact ⟨0, by omega, rfl, by simp, O8.out, B8.out⟩
        case round =>
          obtain ⟨k, hk4, rfl, rfl, ho, hb⟩ := hrel
          by_cases hlt : k < 4
          · have hll : (turn L at_ x k).length = 512 := (turn_length L at_ x k).trans HLEN.out
            obtain ⟨hc1, hf1⟩ := own_cell ho (at_ + k) (by omega)
            have hget : ((turn L at_ x k).map bv)[at_ + k]? = some (bv ((turn L at_ x k).getD (at_ + k) 0)) := by
              rw [List.getElem?_map, List.getElem?_eq_getElem (by omega)]
              simp [List.getD, List.getElem?_eq_getElem (show at_ + k < (turn L at_ x k).length by omega)]
            rw [hget] at hc1
            have hset := own_set ho (at_ + k) (by omega) (bv ((turn L at_ x k).getD (at_ + k) 0 ^^^ UInt8.ofNat (x / 256 ^ k)))
            have hb2 := hb.setCell (p := ⟨gg, at_ + k, none⟩) (show w.heap.size ≤ gg by omega) (bv ((turn L at_ x k).getD (at_ + k) 0 ^^^ UInt8.ofNat (x / 256 ^ k)))
            rw [← List.map_set] at hset
            rw [bv_xor] at hset hb2
            have hq : x / 256 ^ k ≤ x := Nat.div_le_self _ _
            have hnx : x / 256 ^ (k + 1) = x / 256 ^ k / 256 := by rw [Nat.div_div_eq_div_mul, Nat.pow_succ]
            generalize hxk : x / 256 ^ k = q at *
            generalize hy : (turn L at_ x k).getD (at_ + k) 0 = y at *
            have hy8 := y.toNat_lt
            have hxor : bits .xor .u8 (y.toNat : Int) ((q : Int) % 256) = ((y.toNat ^^^ (q % 256) : Nat) : Int) := by
              have he : ((q % 256 : Nat) : Int) = (q : Int) % 256 := by simp
              rw [← he]
              exact u8_xor_nat y.toNat (q % 256) (by omega) (by omega)
            have hstep : turn L at_ x (k + 1) = (turn L at_ x k).set (at_ + k) (y ^^^ UInt8.ofNat q) := by
              show (turn L at_ x k).set (at_ + k) ((turn L at_ x k).getD (at_ + k) 0 ^^^ UInt8.ofNat (x / 256 ^ k)) = _
              rw [hy, hxk]
            unfold bv at hc1
            generalize y.toNat = Y at hc1 hset hb2 hxor hy8
            have HSET := Lib.hid hset; have HB2 := Lib.hid hb2; have HNX := Lib.hid hnx; have HST := Lib.hid hstep
            clear hset hb2 hnx hstep hxk hy hget hll ho hb O8
            go_wp2
            exact ⟨⟨k + 1, by omega, by go_num, by rw [HNX.out]; simp, by rw [HST.out]; exact HSET.out, HB2.out⟩, by simp [intOf]; omega⟩
          · obtain rfl : k = 4 := by omega
            obtain ⟨aq, cq, hvq, _, hBq⟩ := bs_own' ho
            cases hvq
            obtain ⟨p, sf, mm, hL4, hp4, hm4, ht4⟩ := turn_any L at_ x (by rw [HLEN.out]; omega)
            have hrec : isRec (turn L at_ x 4) = false := by
              rw [ht4]
              exact HT.out p sf mm (mm ^^^ x) hm4 (Nat.xor_lt_two_pow (n := 32) hm4 (by omega)) (xor_ne mm x hxne) (by rw [← HL.out]; exact hL4)
            have HREC2 := Lib.hid hrec; have HBQ := Lib.hid hBq; have HB := Lib.hid hb
            clear hrec hBq hb ho hL4 hp4 ht4 O8
            go_wp2_with fail
            refine (slot_Get _ _ _ _ _ HBQ.out).mono ?_
            rintro e w9 ⟨rfl, b9⟩
            rw [recV_none HREC2.out]
            have B9 := Lib.hid (HB.out.trans (b9.mono HB.out.size))
            clear b9 HB HBQ
            go_wp2_with (first
              | (refine alloc_row rfl 63 rfl _ _ _ info_rec [.int .u64 0, .int .u64 0, .int .u32 0] rfl ?_)
              | (refine store_row rfl 63 _ _ rfl w9.heap.size rfl [.int .u64 0, .int .u64 0, .int .u32 0] rfl _ [.int .u64 0, .int .u64 0, .int .u32 0] (Row.made _ _ _) size_rec rfl (by simp [Value.oneCell']) ?_; intro w10 hr10 hk10))
            have b10 : Below w9.heap.size w9 w10 := ((Below.refl _ _).alloc (Nat.le_refl _) _).trans (hk10.below (by simp) (fun k hk => by omega))
            go_ret
            exact ⟨rfl, B9.out.trans (b10.mono B9.out.size)⟩
end Go.Proofs.Ytibjcadingedaaa
