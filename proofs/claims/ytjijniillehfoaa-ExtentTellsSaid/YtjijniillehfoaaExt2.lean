/- Bytes out of many sectors: the program's call. -/
import Derived.Test.YtjijniillehfoaaExt
namespace Go.Own
theorem secsN_le (n : Nat) : n ≤ 512 * secsN n := by unfold secsN; split <;> omega
theorem secsN_ge (n : Nat) : 512 * secsN n < n + 512 := by unfold secsN; split <;> omega
end Go.Own
namespace Go.Proofs.Ytjijniillehfoaa
open Go Go.RowKit Go.Own
set_option linter.unusedVariables false
set_option maxRecDepth 100000
section
variable {B : Nat} {w0 w : World} {l : List Ob} {i p : Nat} {D : Dk}
theorem take_snoc_sec {x : List UInt8} {k n m : Nat} {X s : List UInt8} (hX : X.length = 512 * k) (hx : x = X.take n) (hlt : 512 * k < n) (hs : s.length = 512) (hm : m = min 512 (n - 512 * k)) : x ++ s.take m = (X ++ s).take n := by
  have h1 : X.take n = X := List.take_of_length_le (by omega)
  have h2 : s.take m = s.take (n - 512 * k) := by
    by_cases h : 512 ≤ n - 512 * k
    · rw [show m = 512 by omega, List.take_of_length_le (by omega), List.take_of_length_le (by omega)]
    · rw [show m = n - 512 * k by omega]
  rw [hx, List.take_append, h1, hX, h2]
set_option maxHeartbeats 4000000 in
theorem extent_Read_on (h : St B w0 w l) (hi : l[i]? = some (DkO p D)) (at_ n : Int) (hm : D.wait.length ≤ 1000000) (h0 : 0 ≤ at_) (n0 : 0 ≤ n) (hmay : at_ + secsN n.toNat ≤ D.L.length) (hoff : D.off = false) :
    Calls Try.prog 54 #[ptr p, .int .i64 at_, .int .i64 n] w fun e w' => ∃ v, e = .returned (.tuple #[v, errN 0]) ∧ St B w0 w' (OwB v ((D.secsAt at_.toNat (secsN n.toNat)).take n.toNat) :: l) := by
  obtain ⟨N, rfl⟩ := Int.eq_ofNat_of_zero_le n0
  rw [Int.toNat_natCast] at hmay
  rw [Int.toNat_natCast, errN_0]
  generalize hAt : at_.toNat = A
  have hAt : at_ = A := by omega
  have hg := dk_good h hi
  have hg1 := hg.many.2
  have hle := secsN_le N; have hge := secsN_ge N
  have KS := Lib.hid (dk_Sectors h hi)
  have KE := Lib.hid (extent_sectors w N N rfl (by omega))
  have hA : A + secsN N ≤ D.L.length := by omega
  have hN : N ≤ 65536 := by omega
  have hge2 : (secsN N : Int) ≤ (D.L.length : Int) - at_ := by omega
  have hle2 : at_ ≤ (D.L.length : Int) := by omega
  have H := Lib.hid h; have HI := Lib.hid hi; have HG := Lib.hid hg; have HA := Lib.hid hA; have HLE := Lib.hid hle; have HGE := Lib.hid hge
  have HAT := Lib.hid hAt
  clear h hi hmay hg hA hle hge hAt
  go_enter Try.func54, Try.ntmps54
  go_wp2_with fail
  with_reducible refine KS.out.mono ?_
  rintro e w' ⟨rfl, rfl⟩
  go_wp2_with fail
  with_reducible refine KE.out.mono ?_
  rintro e w' ⟨rfl, rfl⟩
  go_wp2_with fail
  with_reducible refine KS.out.mono ?_
  rintro e w' ⟨rfl, rfl⟩
  go_wp2
  clear hge2 hle2 KS KE
  have hs0 : St B w0 w (OwB (.slice none 0 0) [] :: l) := H.out.addOwn (Below.refl _ _) (World.ownsRow_nil _ _ _ _)
  go_loopw [1, 8] (fun va vo wr => ∃ (k : Nat) (v : Value) (x : List UInt8), va = .int .i64 (at_ + k) ∧ vo = v ∧ k ≤ secsN N ∧ x = (D.secsAt A k).take N ∧ St B w0 wr (OwB v x :: l)) (fun va _ _ => 1000 - (intOf va).toNat)
  case atStart => exact ⟨0, _, [], by simp, rfl, Nat.zero_le _, by simp [Dk.secsAt], hs0⟩
  case round =>
    obtain ⟨k, v, x, rfl, rfl, hk, hx, hs⟩ := hrel
    have hX := Dk.secsAt_len HG.out A k (by have := HA.out; omega)
    have hxl : x.length = min N (512 * k) := by rw [hx, List.length_take, hX]
    obtain ⟨xa, xc, rfl, hxb⟩ := St.bsOwn hs (i := 0) rfl
    by_cases hlt : 512 * k < N
    · have hk2 : k < secsN N := secsN_lt.2 hlt
      have hAk : A + k < D.L.length := by have := HA.out; omega
      obtain ⟨hr1, hr2⟩ := Dk.read_in HG.out hoff (at_ + k) (A + k) (by have := HAT.out; omega) hAk
      have kc := dk_Read hs (i := i + 1) HI.out (at_ + k) hm
      rw [hr1] at kc
      have hsucc := Dk.secsAt_succ D A k
      generalize hsec : lastOf D.wait (A + k) (D.L.getD (A + k) []) = sc at *
      have HX := Lib.hid hX; have Hx := Lib.hid hx; have HR2 := Lib.hid hr2; have HSU := Lib.hid hsucc; have HS := Lib.hid hs
      have hxl2 : x.length = 512 * k := by omega
      clear hX hx hr1 hr2 hsucc hs hsec hxb hxl hAk
      have hxlt : (x.length : Int) < (N : Int) := by omega
      have HXL := Lib.hid hxl2
      clear hxl2
      have hxn : x.length ≤ 65536 := by omega
      have hat2 : at_ ≤ 128 := by have := HAT.out; have := HA.out; omega
      have hk3 : k ≤ 128 := by have := HA.out; omega
      go_wp2_with fail
      with_reducible refine kc.mono ?_
      clear kc
      rintro e w2 ⟨a2, n2, c2, rfl, hb2, hw2⟩
      have hn2 : sc.length = n2 := hb2.len.symm
      have hb2 : Bs w2 a2 n2 c2 sc := hb2
      have hn3 : n2 = 512 := by rw [← hn2]; exact HR2.out
      subst hn3
      clear hn2
      have HS2 := Lib.hid (HS.out.below hw2)
      clear hw2 HS
      obtain ⟨m, hm⟩ : ∃ m, m = min 512 (N - x.length) := ⟨_, rfl⟩
      obtain ⟨a3, c3, hrun, hb3⟩ := piece_toA (P := Try.prog) (t := 31) (e := 5) Try.underlying31 (by kernel_rfl) hb2 .i64 (m : Int) m rfl (by omega)
      have HB3 := Lib.hid (hb3 _ hb2)
      clear hb3 hb2
      rw [errN_0]
      have hif : (if (N : Int) - x.length < 512 then (N : Int) - x.length else 512) = (m : Int) := by split <;> omega
      have HM := Lib.hid hm
      clear hm
      have hxm : x.length + m ≤ 140737488355328 := by have := HM.out; omega
      go_wp2_with (at_builtin; go_must (refine app_st rfl (.tmp 46) (.tmp 55) rfl HS2.out 0 rfl rfl _ _ _ _ rfl HB3.out hxm ?_; intro v3 w3 hs3; have HS3 := Lib.hid hs3; clear hs3))
      refine ⟨⟨k + 1, v3, _, by go_num, rfl, hk2, ?_, HS3.out⟩, by simp [intOf]; omega⟩
      rw [HSU.out]
      exact take_snoc_sec HX.out Hx.out (by have := HXL.out; omega) HR2.out (by have := HM.out; have := HXL.out; omega)
    · have HS := Lib.hid hs
      have hkN : k = secsN N := by have := @secsN_lt N k; omega
      subst hkN
      have Hx := Lib.hid hx
      clear hs hX hxb hx
      have hxl3 : x.length = N := by have := HLE.out; omega
      clear hxl
      go_wp2
      go_ret2
      refine ⟨_, rfl, ?_⟩
      rw [← Hx.out]; exact HS.out
set_option maxHeartbeats 4000000 in
theorem extent_Read (h : St B w0 w l) (hi : l[i]? = some (DkO p D)) (at_ n : Int) (hm : D.wait.length ≤ 1000000) (n1 : n ≤ 9223372036854775807) :
    Calls Try.prog 54 #[ptr p, .int .i64 at_, .int .i64 n] w fun e w' => ∃ v, e = .returned (.tuple #[v, errN (D.inp at_ n).1]) ∧ St B w0 w' (OwB v (D.inp at_ n).2 :: l) := by
  have hg := dk_good h hi
  have hg1 := hg.many
  have hs0 : St B w0 w (OwB (.slice none 0 0) [] :: l) := h.addOwn (Below.refl _ _) (World.ownsRow_nil _ _ _ _)
  have H0 := Lib.hid hs0
  clear hs0
  unfold Dk.inp Dk.may
  by_cases hmay : 0 ≤ n ∧ 0 ≤ at_ ∧ at_ + secsN n.toNat ≤ D.L.length
  · obtain ⟨m1, m2, m3⟩ := hmay
    rw [if_pos (by rw [decide_eq_true_iff]; exact ⟨m1, m2, m3⟩)]
    by_cases hn : n = 0
    · rw [if_pos hn]
      subst hn
      have KS := Lib.hid (dk_Sectors h hi)
      have KE := Lib.hid (extent_sectors w 0 0 rfl (by decide))
      have h3 : at_ ≤ (D.L.length : Int) := by omega
      have h4 : ¬ (D.L.length : Int) - at_ < 0 := by omega
      have h5 : (secsN 0 : Int) = 0 := rfl
      show Calls _ _ _ _ fun e w' => ∃ v, e = .returned (.tuple #[v, errN 0]) ∧ St B w0 w' (OwB v [] :: l)
      rw [errN_0]
      clear h hi m3 m1 hg
      go_enter Try.func54, Try.ntmps54
      go_wp2_with fail
      with_reducible refine KS.out.mono ?_
      rintro e w' ⟨rfl, rfl⟩
      go_wp2_with fail
      with_reducible refine KE.out.mono ?_
      rintro e w' ⟨rfl, rfl⟩
      rw [h5]
      go_wp2_with fail
      with_reducible refine KS.out.mono ?_
      rintro e w' ⟨rfl, rfl⟩
      go_wp2
      go_loopw [8] (fun v wr => v = .slice none 0 0 ∧ wr = w) (fun _ _ => 0)
      case atStart => exact ⟨rfl, rfl⟩
      case round =>
        obtain ⟨rfl, rfl⟩ := hrel
        go_wp2
        go_ret2
        exact ⟨_, rfl, H0.out⟩
    · rw [if_neg hn]
      cases hoff : D.off
      · exact extent_Read_on h hi at_ n hm m2 m1 m3 hoff
      · have KS := Lib.hid (dk_Sectors h hi)
        obtain ⟨N, rfl⟩ := Int.eq_ofNat_of_zero_le m1
        rw [Int.toNat_natCast] at m3
        have KE := Lib.hid (extent_sectors w N N rfl (by omega))
        have h3 : at_ ≤ (D.L.length : Int) := by omega
        have h4 : (secsN N : Int) ≤ (D.L.length : Int) - at_ := by omega
        have h5 : at_ < (D.L.length : Int) := by have := @secsN_pos N (by omega); omega
        have kc := dk_Read h hi at_ hm
        have hr : D.read at_ = (6, []) := by unfold Dk.read; rw [if_neg (by omega), if_pos hoff]
        rw [hr, errN_pos (by decide)] at kc
        have KC := Lib.hid kc
        show Calls _ _ _ _ fun e w' => ∃ v, e = .returned (.tuple #[v, errN 6]) ∧ St B w0 w' (OwB v [] :: l)
        rw [errN_pos (by decide)]
        have h6 : 0 < (N : Int) := by omega
        have H5 := Lib.hid h5
        clear h hi m3 m1 hg kc hr hn h5
        go_enter Try.func54, Try.ntmps54
        go_wp2_with fail
        with_reducible refine KS.out.mono ?_
        rintro e w' ⟨rfl, rfl⟩
        go_wp2_with fail
        with_reducible refine KE.out.mono ?_
        rintro e w' ⟨rfl, rfl⟩
        go_wp2_with fail
        with_reducible refine KS.out.mono ?_
        rintro e w' ⟨rfl, rfl⟩
        go_wp2
        go_loopw [1, 8] (fun va vo wr => va = .int .i64 at_ ∧ vo = .slice none 0 0 ∧ wr = w) (fun _ _ _ => 0)
        case atStart => exact ⟨rfl, rfl, rfl⟩
        case round =>
          obtain ⟨rfl, rfl, rfl⟩ := hrel
          go_wp2_with fail
          with_reducible refine KC.out.mono ?_
          rintro e w2 ⟨a2, n2, c2, rfl, _, hw2⟩
          have H2 := Lib.hid (H0.out.below hw2)
          clear hw2
          go_wp2
          go_ret2
          exact ⟨_, rfl, H2.out⟩
  · rw [if_neg (by rw [decide_eq_true_iff]; exact hmay)]
    show Calls _ _ _ _ fun e w' => ∃ v, e = .returned (.tuple #[v, errN 1]) ∧ St B w0 w' (OwB v [] :: l)
    rw [errN_pos (by decide)]
    have KS := Lib.hid (dk_Sectors h hi)
    by_cases g0 : n < 0
    · clear h hi hmay KS hg
      go_enter Try.func54, Try.ntmps54
      go_wp2
      go_ret2
      exact ⟨_, rfl, H0.out⟩
    · obtain ⟨N, rfl⟩ := Int.eq_ofNat_of_zero_le (show 0 ≤ n by omega)
      rw [Int.toNat_natCast] at hmay
      have KE := Lib.hid (extent_sectors w N N rfl (by omega))
      by_cases g1 : at_ < 0
      · clear hmay KS KE h hi hg
        go_enter Try.func54, Try.ntmps54
        go_wp2
        go_ret2
        exact ⟨_, rfl, H0.out⟩
      · by_cases g2 : D.L.length < at_
        · clear hmay KE h hi hg
          go_enter Try.func54, Try.ntmps54
          go_wp2_with fail
          with_reducible refine KS.out.mono ?_
          rintro e w' ⟨rfl, rfl⟩
          go_wp2
          go_ret2
          exact ⟨_, rfl, H0.out⟩
        · have hge : (D.L.length : Int) - at_ < (secsN N : Int) := by omega
          clear hmay h hi hg
          go_enter Try.func54, Try.ntmps54
          go_wp2_with fail
          with_reducible refine KS.out.mono ?_
          rintro e w' ⟨rfl, rfl⟩
          go_wp2_with fail
          with_reducible refine KE.out.mono ?_
          rintro e w' ⟨rfl, rfl⟩
          go_wp2_with fail
          with_reducible refine KS.out.mono ?_
          rintro e w' ⟨rfl, rfl⟩
          go_wp2
          go_ret2
          exact ⟨_, rfl, H0.out⟩
end
end Go.Proofs.Ytjijniillehfoaa
