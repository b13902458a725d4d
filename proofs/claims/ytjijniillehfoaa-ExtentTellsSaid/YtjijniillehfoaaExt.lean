/- Bytes on many sectors: the program's calls. -/
import Derived.Test.YtjijniillehfoaaLDk
import Derived.Test.YtjijniillehfoaaExtP
import Derived.Test.YtjijniillehfoaaStB
namespace Go.Proofs.Ytjijniillehfoaa
open Go Go.RowKit Go.Own
set_option linter.unusedVariables false
set_option maxRecDepth 100000
theorem extent_sectors (w : World) (n : Int) (N : Nat) (hn : n = N) (hN : N ≤ 9223372036854775807) : Calls Try.prog 153 #[.int .i64 n] w fun e w' => e = .returned (.int .i64 (secsN N : Nat)) ∧ w = w' := by
  subst hn
  go_enter Try.func153, Try.ntmps153
  go_wp2
  go_ret
  refine ⟨rI ?_, rfl⟩
  unfold secsN
  split <;> omega
theorem ref_Sectors (w : World) (n : Int) (N : Nat) (hn : n = N) (hN : N ≤ 9223372036854775807) : Calls Try.prog 57 #[.int .i64 n] w fun e w' => e = .returned (.int .i64 (secsN N : Nat)) ∧ w = w' := by
  subst hn
  by_cases h : (N : Int) % 512 > 0
  · go_enter Try.func57, Try.ntmps57
    go_wp2
    go_ret
    refine ⟨rI ?_, rfl⟩
    unfold secsN
    split <;> omega
  · go_enter Try.func57, Try.ntmps57
    go_wp2
    go_ret
    refine ⟨rI ?_, rfl⟩
    unfold secsN
    split <;> omega
theorem errN_0 : errN 0 = .nilIface := by unfold errN; rw [if_pos rfl]
theorem errN_pos {c : Int} (h : c ≠ 0) : errN c = .iface 183 (.int .i64 c) := by unfold errN; rw [if_neg h]
theorem secB_own (b : List UInt8) (k : Nat) (hk : k = min b.length 512) : b.take k ++ (List.replicate 512 (0 : UInt8)).drop k = secB b := by
  unfold secB
  rw [List.drop_replicate]
  by_cases h : b.length ≤ 512
  · rw [List.take_of_length_le (by omega), List.take_of_length_le h, show k = b.length by omega]
  · rw [show k = 512 by omega, show 512 - b.length = 512 - 512 by omega]
section
variable {B : Nat} {w0 w : World} {l : List Ob} {i p : Nat} {D : Dk}
theorem dk_good (h : St B w0 w l) (hi : l[i]? = some (DkO p D)) : D.Good := by
  obtain ⟨F, ⟨vb, vw, it, ha, _⟩, _⟩ := dk_of h hi
  exact ha.good
theorem rdk_good (h : St B w0 w l) (hi : l[i]? = some (RdO p D)) : D.Good := by
  obtain ⟨F, ⟨_, _, _, _, ha, hg, _⟩, _⟩ := rd_of h hi
  exact hg
set_option maxHeartbeats 4000000 in
theorem extent_Write_may (h : St B w0 w l) (hi : l[i]? = some (DkO p D)) (at_ : Int) (a : Option Addr) (n c : Nat) (b : List UInt8)
    (hb : ∀ (w' : World) (D' : Dk), St B w0 w' (l.set i (DkO p D')) → Bs w' a n c b)
    (hm : D.wait.length ≤ 500000) (h0 : 0 ≤ at_) (hmay : at_ + secsN b.length ≤ D.L.length) (hL : D.L.length ≤ 128) :
    Calls Try.prog 52 #[ptr p, .int .i64 at_, .slice a n c] w fun e w' => e = .returned (errN (D.outN at_ (secsN b.length) b).1) ∧ St B w0 w' (l.set i (DkO p (D.outN at_ (secsN b.length) b).2)) := by
  have h' := h
  rw [← set_same hi] at h'
  have hb0 := hb w D h'
  have hn := hb0.len
  have hcap := Sl.cap hb0; have hroom := Sl.room hb0
  subst hn
  have hlen : b.length ≤ 65536 := by
    have : b.length ≤ 512 * secsN b.length := by unfold secsN; split <;> omega
    omega
  have KS := Lib.hid (dk_Sectors h hi)
  have KE := Lib.hid (extent_sectors w b.length b.length rfl (by omega))
  have H := Lib.hid h'; have HB := Lib.hid hb; have HM := Lib.hid hmay
  have hge : (secsN b.length : Int) ≤ (D.L.length : Int) - at_ := by omega
  have hle : at_ ≤ (D.L.length : Int) := by omega
  have HI := Lib.hid hi
  clear h hi hb hb0 hmay h'
  go_enter Try.func52, Try.ntmps52
  go_wp2_with fail
  with_reducible refine KS.out.mono ?_
  rintro e w' ⟨rfl, rfl⟩
  go_wp2_with fail
  with_reducible refine KE.out.mono ?_
  rintro e w' ⟨rfl, rfl⟩
  go_wp2_with fail
  with_reducible refine KS.out.mono ?_
  rintro e w' ⟨rfl, rfl⟩
  go_wp2
  clear hge hle KS KE
  go_loopw [1, 2] (fun va vb wr => ∃ (A : Int) (D' : Dk) (a' : Option Addr) (c' : Nat) (b' : List UInt8), va = .int .i64 A ∧ vb = .slice a' b'.length c' ∧ St B w0 wr (l.set i (DkO p D')) ∧ D'.wait.length + secsN b'.length ≤ 600000 ∧ D'.L = D.L ∧ 0 ≤ A ∧ A + secsN b'.length ≤ D.L.length ∧
      (∀ w, Bs w a b.length c b → Bs w a' b'.length c' b') ∧ b'.length ≤ 65536 ∧ D.outN at_ (secsN b.length) b = D'.outN A (secsN b'.length) b') (fun _ vb _ => match vb with | .slice _ n _ => n | _ => 0)
  case atStart => exact ⟨at_, D, a, c, b, rfl, rfl, H.out, by have := HM.out; omega, rfl, h0, HM.out, fun _ h => h, hlen, rfl⟩
  case round =>
    obtain ⟨A, D', a', c', b', rfl, rfl, hst, hw, hl, hA, hAm, hbb, hbl, hR⟩ := hrel
    have hbw := hbb _ (HB.out _ _ hst)
    have hc1 := Sl.cap hbw; have hc2 := Sl.room hbw
    by_cases hlt : 0 < b'.length
    · have hstep := Dk.out_step D' A b' hlt
      have hs1 := secsN_pos hlt
      obtain ⟨g, W, hmk, hs⟩ := mk_st hst (512 : Int) 512 rfl (by decide)
      have hbW : Bs W a' b'.length c' b' := hbb _ (HB.out _ _ hs.tail)
      obtain ⟨k, hk⟩ : ∃ k, k = min b'.length 512 := ⟨_, rfl⟩
      obtain ⟨a2, c2, hrun, hb2⟩ := piece_fromA (P := Try.prog) (t := 31) (e := 5) Try.underlying31 (by kernel_rfl) hbW .i64 (k : Int) k rfl (by omega)
      have HS := Lib.hid hs; have HBW := Lib.hid hbW; have HB2 := Lib.hid hb2; have HBB := Lib.hid hbb; have HK := Lib.hid hk; have HR := Lib.hid hR; have HST := Lib.hid hstep; have HS1 := Lib.hid hs1; have HL := Lib.hid hl
      have HAM := Lib.hid hAm; have HW := Lib.hid hw
      clear hs hbW hb2 hbb hst hR hstep hs1 hl hbw hAm hw
      have hk1 : 0 < k := by omega
      have hk2 : k ≤ b'.length := by omega
      clear hk
      go_wp2_with (refine copy_st rfl (.tmp 35) (.tmp 36) rfl HS.out 0 rfl rfl _ _ _ b' rfl HBW.out hlt (by rw [List.length_replicate]; decide) k (by rw [HK.out, List.length_replicate]) ?_; intro w2 hs2; rw [List.set_cons_zero, secB_own b' k HK.out] at hs2; have HS2 := Lib.hid hs2; clear hs2)
      go_wp2_with fail
      obtain ⟨x1, x2, x3, x4⟩ := St.bsOwn HS2.out (i := 0) rfl
      have hsl : (secB b').length = 512 := secB_len b'
      injection x3 with x5 x6 x7
      subst x5 x7
      rw [← x6] at x4
      have hi2 : (OwB (.slice (some ⟨g, 0, none⟩) 512 512) (secB b') :: l.set i (DkO p D'))[i + 1]? = some (DkO p D') := by
        have hil : i < l.length := (List.getElem?_eq_some_iff.1 HI.out).1
        rw [List.getElem?_cons_succ, List.getElem?_set_self hil]
      have kc := dk_Write HS2.out (i := i + 1) hi2 A _ 512 512 (secB b') x4 (by have := HW.out; omega)
      rw [List.set_cons_succ, List.set_set] at kc
      have hA2 : A ≤ 128 := by have := HAM.out; omega
      have hwl := Dk.write_wait D' A (secB b')
      have HWL := Lib.hid hwl
      have hdk : b'.drop k = b'.drop 512 := by
        by_cases h : b'.length ≤ 512
        · rw [List.drop_eq_nil_of_le h, List.drop_eq_nil_of_le (by have := HK.out; omega)]
        · rw [show k = 512 by have := HK.out; omega]
      have HDK := Lib.hid hdk
      clear hwl hsl x6 x4 hi2 hdk
      by_cases hz : (D'.write A (secB b')).1 = 0
      · rw [hz, errN_0] at kc
        with_reducible refine kc.mono ?_
        clear kc
        rintro e w3 ⟨rfl, hs3⟩
        have HS3 := Lib.hid hs3.tail
        have HZ := Lib.hid hz
        clear hs3 hz
        go_wp2
        refine ⟨⟨A + 1, _, a2, c2, b'.drop 512, rfl, by rw [← HDK.out, List.length_drop], HS3.out, ?_, by rw [HWL.out.2.1, HL.out], by omega, ?_, ?_, by rw [List.length_drop]; omega, ?_⟩, by show b'.length - k < b'.length; omega⟩
        · have := HW.out; have := HWL.out.1; have := HS1.out
          rw [List.length_drop]; omega
        · have := HAM.out; have := HS1.out
          rw [List.length_drop]; omega
        · intro w hw
          have := HB2.out w (HBB.out w hw)
          rw [← HDK.out, List.length_drop]; exact this
        · rw [HR.out, HST.out, if_pos HZ.out]
      · rw [errN_pos hz] at kc
        with_reducible refine kc.mono ?_
        clear kc
        rintro e w3 ⟨rfl, hs3⟩
        have HS3 := Lib.hid hs3.tail
        have HZ := Lib.hid hz
        clear hs3 hz
        go_wp2
        go_ret
        have : D.outN at_ (secsN b.length) b = D'.write A (secB b') := by rw [HR.out, HST.out, if_neg HZ.out]
        rw [this, errN_pos HZ.out]
        exact ⟨rfl, HS3.out⟩
    · have h0 : b' = [] := List.eq_nil_of_length_eq_zero (by omega)
      have HS := Lib.hid hst; have HR := Lib.hid hR
      clear hst hR hbb hbw hl hw hAm
      subst h0
      go_wp2
      go_ret
      rw [HR.out]
      exact ⟨rfl, HS.out⟩
/-- All cases in one. -/
theorem extent_Write (h : St B w0 w l) (hi : l[i]? = some (DkO p D)) (at_ : Int) (a0 : -9223372036854775808 ≤ at_) (a1 : at_ ≤ 9223372036854775807) (a : Option Addr) (n c : Nat) (b : List UInt8)
    (hb : ∀ (w' : World) (D' : Dk), St B w0 w' (l.set i (DkO p D')) → Bs w' a n c b) (hm : D.wait.length ≤ 500000) (hbl : b.length ≤ 9223372036854775807) :
    Calls Try.prog 52 #[ptr p, .int .i64 at_, .slice a n c] w fun e w' => e = .returned (errN (D.out at_ b).1) ∧ St B w0 w' (l.set i (DkO p (D.out at_ b).2)) := by
  have hg := dk_good h hi
  have hg1 := hg.many
  unfold Dk.out Dk.may
  by_cases hmay : 0 ≤ at_ ∧ at_ + secsN b.length ≤ D.L.length
  · have kc := extent_Write_may h hi at_ a n c b hb hm hmay.1 hmay.2 (by omega)
    rw [if_pos (by rw [decide_eq_true_iff]; exact ⟨by omega, hmay.1, by rw [Int.toNat_natCast]; exact hmay.2⟩)]
    exact kc
  · rw [if_neg (by rw [decide_eq_true_iff, Int.toNat_natCast]; exact fun h => hmay h.2)]
    have h' := h
    rw [← set_same hi] at h'
    have hn := (hb w D h').len
    subst hn
    have KS := Lib.hid (dk_Sectors h hi)
    have KE := Lib.hid (extent_sectors w b.length b.length rfl hbl)
    have H := Lib.hid h'
    clear h hi hb h' hg
    show Calls _ _ _ _ fun e w' => e = .returned (errN 1) ∧ St B w0 w' (l.set i (DkO p D))
    rw [errN_pos (by decide)]
    by_cases g1 : at_ < 0
    · clear hmay KS KE
      go_enter Try.func52, Try.ntmps52
      go_wp2
      go_ret
      exact ⟨rfl, H.out⟩
    · by_cases g2 : D.L.length < at_
      · clear hmay KE
        go_enter Try.func52, Try.ntmps52
        go_wp2_with fail
        with_reducible refine KS.out.mono ?_
        rintro e w' ⟨rfl, rfl⟩
        go_wp2
        go_ret
        exact ⟨rfl, H.out⟩
      · have hge : (D.L.length : Int) - at_ < (secsN b.length : Int) := by omega
        clear hmay
        go_enter Try.func52, Try.ntmps52
        go_wp2_with fail
        with_reducible refine KS.out.mono ?_
        rintro e w' ⟨rfl, rfl⟩
        go_wp2_with fail
        with_reducible refine KE.out.mono ?_
        rintro e w' ⟨rfl, rfl⟩
        go_wp2_with fail
        with_reducible refine KS.out.mono ?_
        rintro e w' ⟨rfl, rfl⟩
        go_wp2
        go_ret
        exact ⟨rfl, H.out⟩
end
end Go.Proofs.Ytjijniillehfoaa
