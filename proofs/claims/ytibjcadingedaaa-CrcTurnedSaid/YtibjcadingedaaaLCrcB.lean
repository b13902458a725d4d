import Derived.Test.YtibjcadingedaaaLCrc
namespace Go.Proofs.Ytibjcadingedaaa
open Go Go.RowKit Go.Own
set_option linter.unusedVariables false
theorem Sl.bytes {w : World} {a : Option Addr} {n c : Nat} {l : List UInt8} {vs : List Value} (h : Sl w a n c 1 vs) (e : vs = l.map bv) : Bs w a n c l := by subst e; exact h
theorem sum_lt (l : List UInt8) : crcSum l < 4294967296 := more_lt 0 l
theorem parts_eq (l l2 : List UInt8) : crcMore (crcSum l) l2 = crcSum (l ++ l2) := (more_append 0 l l2 (by decide)).symm
set_option maxHeartbeats 4000000 in
theorem crcParts (w : World) (a : Option Addr) (n c : Nat) (l : List UInt8) (a2 : Option Addr) (n2 c2 : Nat) (l2 : List UInt8) (h : Bs w a n c l) (h2 : Bs w a2 n2 c2 l2) :
    Calls Try.prog 8 #[.slice a n c, .slice a2 n2 c2] w fun e w' => e = .returned (.bool true) ∧ Below w.heap.size w w' := by
  have hl := h.len
  subst hl
  have hl2 := h2.len
  subst hl2
  have hcap := Sl.cap h
  have hroom := Sl.room h
  have hcap2 := Sl.cap h2
  have hroom2 := Sl.room h2
  have H := Lib.hid h; clear h
  have K := Lib.hid h2; clear h2
  go_enter Try.func8, Try.ntmps8
  go_wp2_with fail
  with_reducible refine (up02 _).mono ?_
  rintro e w1 ⟨rfl, hb⟩
  have H1 := Lib.hid (H.out.below hb); clear H
  have K1 := Lib.hid (K.out.below hb); clear K
  by_cases hg : l.length > 10000
  · go_wp2
    go_ret
    exact ⟨rfl, hb⟩
  by_cases hg2 : l2.length > 10000
  · go_wp2
    go_ret
    exact ⟨rfl, hb⟩
  have HB := Lib.hid hb; clear hb
  go_wp2_with fail
  with_reducible refine (crc_Sum _ _ _ _ _ H1.out).mono ?_
  rintro e w2 ⟨rfl, hb⟩
  have H2 := Lib.hid (H1.out.below hb); have K2 := Lib.hid (K1.out.below hb); have HB2 := Lib.hid (HB.out.trans (hb.mono HB.out.size)); clear hb H1 K1 HB
  go_wp2_with fail
  with_reducible refine (crc_More _ (crcSum l) _ _ _ _ (sum_lt l) K2.out).mono ?_
  rintro e w3 ⟨rfl, hb⟩
  have H3 := Lib.hid (H2.out.below hb); have K3 := Lib.hid (K2.out.below hb); have HB3 := Lib.hid (HB2.out.trans (hb.mono HB2.out.size)); clear hb H2 K2 HB2
  have hal : Below w3.heap.size w3 (w3.alloc (.cells #[] 5 (0, 0))) := (Below.refl _ _).alloc (Nat.le_refl _) _
  have H4 := Lib.hid (H3.out.below hal); have HAL := Lib.hid hal
  clear hal
  go_wp2_with (first
    | (at_builtin; refine app_sl rfl (.tmp 22) (.tmp 23) 29 rfl w3.heap.size 5 (.int .u8 0) 1 1 Try.underlying29 info_u8 rfl (by decide) _ 0 [] rfl (own_empty w3 5 1) _ _ _ _ rfl H4.out (bv_one _) (by omega) (by omega) (le_alloc (Nat.le_refl _) _) ?_; intro x1 wA hA gA; have hAB := HAL.out.trans gA; clear gA)
    | (at_builtin; refine app_sl rfl (.tmp 24) (.tmp 25) 29 rfl w3.heap.size 5 (.int .u8 0) 1 1 Try.underlying29 info_u8 rfl (by decide) _ _ _ rfl hA _ _ _ _ rfl (K3.out.below hAB) (bv_one _) (by omega) (by omega) hAB.size ?_; intro x2 wB hB gB; have hAC := hAB.trans gB; clear gB))
  obtain ⟨aD, cD, rfl, _, hS⟩ := Sl.of_owned hB
  have hD := Sl.bytes (l := l ++ l2) hS (by simp)
  have HB4 := Lib.hid (HB3.out.trans (hAC.mono HB3.out.size))
  have hsum := crc_Sum _ _ _ _ _ hD
  rw [← parts_eq] at hsum
  have HS := Lib.hid hsum
  clear hA hB hAB hAC hS hD hsum
  with_reducible refine HS.out.mono ?_
  rintro e w4 ⟨rfl, hb⟩
  have HB5 := Lib.hid (HB4.out.trans (hb.mono HB4.out.size))
  clear hb
  go_wp2
  go_ret
  exact ⟨rfl, HB5.out⟩

theorem sum_mid (l l2 : List UInt8) (x y : Nat) (hx : x < 4294967296) (hy : y < 4294967296) : crcSum (l ++ low x 4 ++ l2) = crcSum (l ++ low y 4 ++ l2) ↔ x = y := by
  constructor
  · intro h
    unfold crcSum at h
    rw [more_append _ _ _ (by decide), more_append _ (l ++ low y 4) _ (by decide)] at h
    have h1 := more_inj l2 (more_lt _ _) (more_lt _ _) h
    unfold crcMore at h1
    rw [reg_append, reg_append, reg_low 4 _ x (by simpa using hx), reg_low 4 _ y (by simpa using hy)] at h1
    have hr := reg_lt l (r := 4294967295 - 0) (by decide)
    have a1 := crcN_lt (8 * 4) (lt_xor hr hx)
    have a2 := crcN_lt (8 * 4) (lt_xor hr hy)
    have h2 := crcN_inj (8 * 4) (lt_xor hr hx) (lt_xor hr hy) (by omega)
    rw [Nat.xor_comm _ x, Nat.xor_comm _ y] at h2
    exact xor_right_inj h2
  · rintro rfl; rfl
theorem xor_eq_self (x y : Nat) : x = x ^^^ y ↔ y = 0 := by
  constructor
  · intro h
    have h2 := congrArg (x ^^^ ·) h
    simp only [← Nat.xor_assoc, Nat.xor_self, Nat.zero_xor] at h2
    exact h2.symm
  · rintro rfl; simp
set_option maxHeartbeats 8000000 in
theorem crcTurned_walk (w : World) (a : Option Addr) (n c : Nat) (l : List UInt8) (four : Nat) (a2 : Option Addr) (n2 c2 : Nat) (l2 : List UInt8) (by_ s s2 : Nat) (h : Bs w a n c l) (hfour : four < 4294967296) (h2 : Bs w a2 n2 c2 l2)
    (hby : by_ < 4294967296) (hs : s < 4294967296) (hs2 : s2 < 4294967296) :
    Calls Try.prog 9 #[.slice a n c, .int .u32 four, .slice a2 n2 c2, .int .u32 by_, .int .u32 s, .int .u32 s2] w fun e w' => e = .returned (.bool true) ∧ Below w.heap.size w w' := by
  have hl := h.len
  subst hl
  have hl2 := h2.len
  subst hl2
  have hcap := Sl.cap h
  have hroom := Sl.room h
  have hcap2 := Sl.cap h2
  have hroom2 := Sl.room h2
  have H := Lib.hid h; clear h
  have K := Lib.hid h2; clear h2
  have hx := u32_xor_nat four by_ hfour hby
  have hxl := lt_xor hfour hby
  have hw1 := wrapU64 (n := (four : Int)) (by omega) (by omega)
  have hw2 := wrapU64 (n := ((four ^^^ by_ : Nat) : Int)) (by omega) (by omega)
  have e1 : ((crcSum (l ++ (low four 4 ++ l2)) : Int) == (crcSum (l ++ (low (four ^^^ by_) 4 ++ l2)) : Int)) = decide (by_ = 0) := by
    rw [Bool.eq_iff_iff]; simp only [beq_iff_eq, decide_eq_true_eq, Int.ofNat_inj]; rw [← List.append_assoc, ← List.append_assoc, sum_mid _ _ _ _ hfour hxl, xor_eq_self]
  have e2 : ((by_ : Int) == 0) = decide (by_ = 0) := by rw [Bool.eq_iff_iff]; simp only [beq_iff_eq, decide_eq_true_eq]; omega
  have e3 : ((crcMore s l2 : Int) == (crcMore s2 l2 : Int)) = decide (s = s2) := by
    rw [Bool.eq_iff_iff]; simp only [beq_iff_eq, decide_eq_true_eq, Int.ofNat_inj]
    exact ⟨more_inj l2 hs hs2, fun h => by rw [h]⟩
  have e4 : ((s : Int) == (s2 : Int)) = decide (s = s2) := by rw [Bool.eq_iff_iff]; simp only [beq_iff_eq, decide_eq_true_eq, Int.ofNat_inj]
  generalize decide (by_ = 0) = p at e1 e2
  generalize decide (s = s2) = q at e3 e4
  generalize four ^^^ by_ = five at hx hxl hw2 e1
  have E1 := Lib.hid e1; have E2 := Lib.hid e2; have E3 := Lib.hid e3; have E4 := Lib.hid e4
  clear e1 e2 e3 e4
  go_enter Try.func9, Try.ntmps9
  go_wp2_with fail
  with_reducible refine (up02 _).mono ?_
  rintro e w1 ⟨rfl, hb⟩
  have H1 := Lib.hid (H.out.below hb); clear H
  have K1 := Lib.hid (K.out.below hb); clear K
  by_cases hg : l.length > 10000
  · go_wp2
    go_ret
    exact ⟨rfl, hb⟩
  by_cases hg2 : l2.length > 10000
  · go_wp2
    go_ret
    exact ⟨rfl, hb⟩
  have HB := Lib.hid hb; clear hb
  have hal : Below w1.heap.size w1 (w1.alloc (.cells #[] 5 (0, 0))) := (Below.refl _ _).alloc (Nat.le_refl _) _
  have H4 := Lib.hid (H1.out.below hal); have HAL := Lib.hid hal
  clear hal
  go_wp2_with (at_builtin; refine app_sl rfl (.tmp 26) (.tmp 27) 29 rfl w1.heap.size 5 (.int .u8 0) 1 1 Try.underlying29 info_u8 rfl (by decide) _ 0 [] rfl (own_empty w1 5 1) _ _ _ _ rfl H4.out (bv_one _) (by omega) (by omega) (le_alloc (Nat.le_refl _) _) ?_; intro x1 wA hA gA; have hAB := HAL.out.trans gA; clear gA)
  with_reducible refine (ref_Low _ _ 4 4 rfl (by omega) (by omega) (by decide)).mono ?_
  rintro e wl ⟨vl, rfl, hol, hbl⟩
  obtain ⟨al, cl, rfl, _, hBl⟩ := Sl.of_owned hol
  rw [low_length, Int.toNat_natCast] at hBl
  rw [low_length]
  have hA' := own_below hA hbl
  have hAB' := hAB.trans (hbl.mono hAB.size)
  clear hA hAB hol hbl
  go_wp2_with (first
    | (at_builtin; refine app_sl rfl (.tmp 28) (.tmp 31) 29 rfl w1.heap.size 5 (.int .u8 0) 1 1 Try.underlying29 info_u8 rfl (by decide) _ _ _ rfl hA' _ _ _ _ rfl hBl (bv_one _) (by omega) (by omega) hAB'.size ?_; intro x2 wC hC gC; have hAC := hAB'.trans gC; clear gC)
    | (at_builtin; refine app_sl rfl (.tmp 32) (.tmp 33) 29 rfl w1.heap.size 5 (.int .u8 0) 1 1 Try.underlying29 info_u8 rfl (by decide) _ _ _ rfl hC _ _ _ _ rfl (K1.out.below hAC) (bv_one _) (by omega) (by omega) hAC.size ?_; intro x3 wD hD gD; have hAD := hAC.trans gD; clear gD; have hAE : Below w1.heap.size w1 (wD.alloc (.cells #[] 5 (0, 0))) := hAD.alloc hAD.size _)
    | (at_builtin; refine app_sl rfl (.tmp 35) (.tmp 36) 29 rfl wD.heap.size 5 (.int .u8 0) 1 1 Try.underlying29 info_u8 rfl (by decide) _ 0 [] rfl (own_empty wD 5 1) _ _ _ _ rfl (H1.out.below hAE) (bv_one _) (by omega) (by omega) (le_alloc (Nat.le_refl _) _) ?_; intro y1 vA kA gA))
  have hVA : Below wD.heap.size wD vA := ((Below.refl _ _).alloc (Nat.le_refl _) _).trans gA
  with_reducible refine (ref_Low _ _ 4 4 rfl (by omega) (by omega) (by decide)).mono ?_
  rintro e wm ⟨vm, rfl, hom, hbm⟩
  obtain ⟨am, cm, rfl, _, hBm⟩ := Sl.of_owned hom
  rw [low_length, Int.toNat_natCast] at hBm
  rw [low_length]
  have kA' := own_below kA hbm
  have hVB := hVA.trans (hbm.mono hVA.size)
  clear kA hVA hom hbm gA hA' hAB' hC hAC
  go_wp2_with (first
    | (at_builtin; refine app_sl rfl (.tmp 37) (.tmp 42) 29 rfl wD.heap.size 5 (.int .u8 0) 1 1 Try.underlying29 info_u8 rfl (by decide) _ _ _ rfl kA' _ _ _ _ rfl hBm (bv_one _) (by omega) (by omega) hVB.size ?_; intro y2 vC kC gC; have hVC := hVB.trans gC; clear gC)
    | (at_builtin; refine app_sl rfl (.tmp 43) (.tmp 44) 29 rfl wD.heap.size 5 (.int .u8 0) 1 1 Try.underlying29 info_u8 rfl (by decide) _ _ _ rfl kC _ _ _ _ rfl (K1.out.below (hAD.trans (hVC.mono hAD.size))) (bv_one _) (by omega) (by omega) hVC.size ?_; intro y3 vD kD gD; have hVD := hVC.trans gD; clear gD))
  obtain ⟨aD, cD, rfl, _, hS⟩ := Sl.of_owned hD
  obtain ⟨aE, cE, rfl, _, hS2⟩ := Sl.of_owned kD
  clear hD kD
  generalize 0 + l.length + 4 + l2.length = nD at hS hS2 ⊢
  have hD1 := Sl.bytes (l := l ++ (low four 4 ++ l2)) hS (by simp)
  have hD2 := hD1.below hVD
  have hE2 := Sl.bytes (l := l ++ (low five 4 ++ l2)) hS2 (by simp)
  have HB4 := Lib.hid (HB.out.trans ((hAD.trans (hVD.mono hAD.size)).mono HB.out.size))
  have K2 := Lib.hid (K1.out.below (hAD.trans (hVD.mono hAD.size)))
  have hsum := crc_Sum _ _ _ _ _ hD2
  have HS := Lib.hid hsum
  have HE2 := Lib.hid hE2
  clear hS hD1 hD2 hS2 hE2 hsum hAD hVD hAE kA' hBm hBl hVB kC hVC
  with_reducible refine HS.out.mono ?_
  rintro e w4 ⟨rfl, hb⟩
  have HB5 := Lib.hid (HB4.out.trans (hb.mono HB4.out.size)); have HE3 := Lib.hid (HE2.out.below hb); have K3 := Lib.hid (K2.out.below hb)
  clear hb HS HE2 HB4 K2
  go_wp2_with fail
  with_reducible refine (crc_Sum _ _ _ _ _ HE3.out).mono ?_
  rintro e w5 ⟨rfl, hb⟩
  have HB6 := Lib.hid (HB5.out.trans (hb.mono HB5.out.size)); have K4 := Lib.hid (K3.out.below hb)
  clear hb HE3 HB5 K3
  have e1 := E1.out
  have e2 := E2.out
  have hl1 := sum_lt (l ++ (low four 4 ++ l2))
  have hl2 := sum_lt (l ++ (low five 4 ++ l2))
  generalize crcSum (l ++ (low four 4 ++ l2)) = S1 at e1 hl1 ⊢
  generalize crcSum (l ++ (low five 4 ++ l2)) = S2 at e1 hl2 ⊢
  go_wp2_with fail
  with_reducible refine (crc_More _ s _ _ _ _ hs K4.out).mono ?_
  rintro e w6 ⟨rfl, hb⟩
  have HB7 := Lib.hid (HB6.out.trans (hb.mono HB6.out.size)); have K5 := Lib.hid (K4.out.below hb)
  clear hb HB6 K4
  go_wp2_with fail
  with_reducible refine (crc_More _ s2 _ _ _ _ hs2 K5.out).mono ?_
  rintro e w7 ⟨rfl, hb⟩
  have HB8 := Lib.hid (HB7.out.trans (hb.mono HB7.out.size))
  clear hb HB7 K5
  have e3 := E3.out
  have e4 := E4.out
  generalize crcMore s l2 = M1 at e3 ⊢
  generalize crcMore s2 l2 = M2 at e3 ⊢
  go_wp2
  go_ret
  exact ⟨rfl, HB8.out⟩
theorem crcTurned (w : World) (a : Option Addr) (n c : Nat) (l : List UInt8) (four : Int) (a2 : Option Addr) (n2 c2 : Nat) (l2 : List UInt8) (by_ s s2 : Int) (h : Bs w a n c l) (hfour : (Lit.int .u32 four).wf = true) (h2 : Bs w a2 n2 c2 l2)
    (hby : (Lit.int .u32 by_).wf = true) (hs : (Lit.int .u32 s).wf = true) (hs2 : (Lit.int .u32 s2).wf = true) :
    Calls Try.prog 9 #[.slice a n c, .int .u32 four, .slice a2 n2 c2, .int .u32 by_, .int .u32 s, .int .u32 s2] w fun e w' => e = .returned (.bool true) ∧ Below w.heap.size w w' := by
  obtain ⟨F, rfl⟩ : ∃ F : Nat, four = F := ⟨four.toNat, by have := wf_u32 hfour; omega⟩
  obtain ⟨B, rfl⟩ : ∃ F : Nat, by_ = F := ⟨by_.toNat, by have := wf_u32 hby; omega⟩
  obtain ⟨S, rfl⟩ : ∃ F : Nat, s = F := ⟨s.toNat, by have := wf_u32 hs; omega⟩
  obtain ⟨T, rfl⟩ : ∃ F : Nat, s2 = F := ⟨s2.toNat, by have := wf_u32 hs2; omega⟩
  have q1 := wf_u32 hfour
  have q2 := wf_u32 hby
  have q3 := wf_u32 hs
  have q4 := wf_u32 hs2
  exact crcTurned_walk w a n c l F a2 n2 c2 l2 B S T h (by omega) h2 (by omega) (by omega) (by omega)
end Go.Proofs.Ytibjcadingedaaa
