/- The reference's arena: Store, Copy, Fill, Grow, Widen. -/
import Derived.Test.YtjijniillehfoaaRAr
import Derived.Test.YtjijniillehfoaaOwnM
namespace Go.Proofs.Ytjijniillehfoaa
open Go Go.RowKit Go.Own
set_option linter.unusedVariables false
set_option maxRecDepth 100000
set_option maxHeartbeats 4000000 in
theorem rar_Store_ok (w : World) (p : Nat) (A : Ar) (v : Value) (h : ArR w p A v) (addr : Int) (i : Nat) (hi : addr = A.base + i) (a : Option Addr) (n c : Nat) (b : List UInt8) (hb : Bs w a n c b) (hd : ∀ q, a = some q → 0 < b.length → ¬ v.ownBlock = some q.block) (hf : i + b.length ≤ A.b.length) :
    Calls Try.prog 145 #[arP p, .int .u64 addr, .slice a n c] w fun e w' => e = .returned (.int .i64 0) ∧ ArR w' p { A with b := lay A.b i b } v ∧ Keep (fun k => v.ownBlock = some k) w w' := by
  have hn := hb.len
  subst hn
  have hl1 := h.hlen; have hl2 := h.hcap
  have K := Lib.hid (rar_There_ok w p A v h addr i hi b.length b.length rfl hf)
  have hap := Lib.hid (h.apart (by decide))
  have H := Lib.hid h; have HB := Lib.hid hb; have HD := Lib.hid hd
  clear h hb hi hd
  go_enter Try.func145, Try.ntmps145
  go_wp2_with fail
  refine K.out.mono ?_
  rintro e w1 ⟨rfl, b1⟩
  have H1 := Lib.hid (H.out.below b1); have HB1 := Lib.hid (HB.out.below b1); have B1 := Lib.hid b1
  clear b1
  by_cases h0 : 0 < b.length
  · obtain ⟨aa, cap, hv, _⟩ := H.out.form
    subst hv
    obtain ⟨g, rfl⟩ := H.out.at_ i b.length hf h0
    have hpg : ¬ p = g := fun e => hap.out (by rw [e]; rfl)
    go_wp2
    go_loopw [9] (fun x wr => ∃ k : Nat, k ≤ b.length ∧ x = .int .i64 k ∧ ArR wr p { A with b := lay A.b i (b.take k) } (.slice (some ⟨g, 0, none⟩) A.b.length cap) ∧ Keep (· = g) w1 wr) (fun x _ => b.length - (intOf x).toNat)
    case atStart => exact ⟨0, Nat.zero_le _, rfl, by rw [List.take_zero, lay_nil]; exact H1.out, Keep.refl _ _⟩
    case round =>
      obtain ⟨k, hk, rfl, hA, hK⟩ := hrel
      by_cases hlt : k < b.length
      · have hll : (lay A.b i (b.take k)).length = A.b.length := lay_length _ _ _ (by rw [List.length_take]; omega)
        obtain ⟨q1, q2, q3, q4⟩ := setByte (by decide) hA.drew (i + k) (by show i + k < (lay A.b i (b.take k)).length; rw [hll]; omega) b[k]
        simp only at q3
        rw [lay_snoc A.b b i k (by omega) hlt] at q3
        have HW := hA.row.drew
        have HBw := HB1.out.keep hK (fun q hq hf => HD.out q hq h0 (by rw [show q.block = g from hf]; rfl))
        have HBd := Lib.hid HBw.drew
        have HOF := Lib.hid (fun q (hq : a = some q) (hf : q.block = g) => HD.out q hq h0 (by rw [hf]; rfl))
        have Q3 := Lib.hid q3; have HK := Lib.hid hK; have HR := Lib.hid HW
        obtain ⟨bb, bo, rfl, _⟩ := HBw.at k hlt
        have hx := b[k].toNat_lt
        have HBK := Lib.hid (show ∀ w', Keep (fun x => x = g) wr.drew w' → w'.cell? ⟨bb, bo + k, none⟩ = some (.int .u8 (b[k].toNat : Nat)) from fun w' hk => by
          obtain ⟨_, _, e, hc⟩ := (HBd.out.keep hk HOF.out).at k hlt
          cases e; exact hc)
        generalize b[k] = bk at *
        have s1 : IntKind.i64.wrap ((i : Int) + (k : Int)) = (i : Int) + (k : Int) := IntWalk.i64_in _ (by omega)
        have s2 : 0 ≤ (i : Int) + (k : Int) := by omega
        have s3 : (i : Int) + (k : Int) < (A.b.length : Int) := by omega
        have s4 : ((i : Int) + (k : Int)).toNat = i + k := by omega
        obtain ⟨u, qu⟩ : ∃ u, wr.drew.cell? ⟨g, i + k, none⟩ = some u := ⟨_, q1⟩
        clear q1; clear hA hK hll q3 HW HBw
        go_wp2
        refine flowe_begin (F := fun x => x = g) hmixed 13 rfl (by repeat (first | exact ps_body | refine ps_then ?_ | refine ps_block ?_)) (fun hps => ?_)
        simp only [List.replicate]
        have kk := (Keep.refl (fun x => x = g) (wr)).drew
        refine flowe_take 0 (v := ?_) (a' := ?_) hps rfl (by kernel_rfl) rfl ?_ ?_ ?_
        rotate_left 2
        · intro w' hk; go_simp; try rfl
        · simp only [Act.put, List.setIfInBounds_toArray, List.set_cons_succ, List.set_cons_zero]; try rfl
        refine flowe_take 1 (v := ?_) (a' := ?_) hps rfl (by kernel_rfl) rfl ?_ ?_ ?_
        rotate_left 2
        · intro w' hk; go_simp; try rfl
        · simp only [Act.put, List.setIfInBounds_toArray, List.set_cons_succ, List.set_cons_zero]; try rfl
        refine flowe_take 2 (v := ?_) (a' := ?_) hps rfl (by kernel_rfl) rfl ?_ ?_ ?_
        rotate_left 2
        · intro w' hk; go_simp; try rfl
        · simp only [Act.put, List.setIfInBounds_toArray, List.set_cons_succ, List.set_cons_zero]; try rfl
        refine flowe_take 3 (v := ?_) (a' := ?_) hps rfl (by kernel_rfl) rfl ?_ ?_ ?_
        rotate_left 2
        · intro w' hk; have hc := (HR.out.keep hk hpg).cell 2; simp only [List.getElem?_cons_succ, List.getElem?_cons_zero] at hc; go_simp; try rfl
        · simp only [Act.put, List.setIfInBounds_toArray, List.set_cons_succ, List.set_cons_zero]; try rfl
        refine flowe_take 4 (v := ?_) (a' := ?_) hps rfl (by kernel_rfl) rfl ?_ ?_ ?_
        rotate_left 2
        · intro w' hk; go_simp; try rfl
        · simp only [Act.put, List.setIfInBounds_toArray, List.set_cons_succ, List.set_cons_zero]; try rfl
        refine flowe_take 5 (v := ?_) (a' := ?_) hps rfl (by kernel_rfl) rfl ?_ ?_ ?_
        rotate_left 2
        · intro w' hk; go_simp; try rfl
        · simp only [Act.put, List.setIfInBounds_toArray, List.set_cons_succ, List.set_cons_zero]; try rfl
        refine flowe_take 6 (v := ?_) (a' := ?_) hps rfl (by kernel_rfl) rfl ?_ ?_ ?_
        rotate_left 2
        · intro w' hk; go_simp; try rfl
        · simp only [Act.put, List.setIfInBounds_toArray, List.set_cons_succ, List.set_cons_zero]; try rfl
        refine flowe_take 7 (v := ?_) (a' := ?_) hps rfl (by kernel_rfl) rfl ?_ ?_ ?_
        rotate_left 2
        · intro w' hk; go_simp; try rfl
        · simp only [Act.put, List.setIfInBounds_toArray, List.set_cons_succ, List.set_cons_zero]; try rfl
        refine flowe_take 8 (v := ?_) (a' := ?_) hps rfl (by kernel_rfl) rfl ?_ ?_ ?_
        rotate_left 2
        · intro w' hk; go_simp; try rfl
        · simp only [Act.put, List.setIfInBounds_toArray, List.set_cons_succ, List.set_cons_zero]; try rfl
        refine flowe_take 9 (v := ?_) (a' := ?_) hps rfl (by kernel_rfl) rfl ?_ ?_ ?_
        rotate_left 2
        · intro w' hk; go_simp; try rfl
        · simp only [Act.put, List.setIfInBounds_toArray, List.set_cons_succ, List.set_cons_zero]; try rfl
        refine flowe_take 10 (v := ?_) (a' := ?_) hps rfl (by kernel_rfl) rfl ?_ ?_ ?_
        rotate_left 2
        · intro w' hk; have hc := HBK.out w' hk; go_simp; try rfl
        · simp only [Act.put, List.setIfInBounds_toArray, List.set_cons_succ, List.set_cons_zero]; try rfl
        refine flowe_take 11 (v := ?_) (a' := ?_) hps rfl (by kernel_rfl) rfl ?_ ?_ ?_
        rotate_left 2
        · intro w' hk; go_simp; try rfl
        · simp only [Act.put, List.setIfInBounds_toArray, List.set_cons_succ, List.set_cons_zero]; try rfl
        refine flowe_one 12 hps rfl (by kernel_rfl) rfl (wp_next (fun K hK => ?_))
        go_simp
        have kp := q4
        refine hK _ _ (flow_step kk ?_ ?_)
        · first | exact kp | exact Keep.refl _ _ | exact (Keep.refl _ _).alloc _
        clear kk hK; try clear kp
        intro kk
        refine flowe_done hps (by kernel_rfl) ?_
        have KK := Lib.hid kk
        clear kk s1 s2 s3 s4
        go_wp2
        exact ⟨⟨k + 1, by omega, by go_num, Q3.out, HK.out.trans KK.out⟩, by simp [intOf]; omega⟩
      · obtain rfl : k = b.length := by omega
        rw [List.take_length] at hA
        have HA := Lib.hid hA; have HK := Lib.hid hK
        clear hA hK
        go_wp2
        go_ret
        exact ⟨rfl, HA.out, (Keep.of_below B1.out).trans (HK.out.mono fun k _ e => by rw [e]; rfl)⟩
  · have hb0 : b = [] := List.eq_nil_of_length_eq_zero (by omega)
    subst hb0
    go_wp2
    go_loopw [9] (fun x wr => x = .int .i64 0 ∧ wr = w1) (fun _ _ => 0)
    case atStart => exact ⟨rfl, rfl⟩
    case round =>
      obtain ⟨rfl, rfl⟩ := hrel
      go_wp2
      go_ret
      exact ⟨rfl, by rw [lay_nil]; exact H1.out, Keep.of_below B1.out⟩
theorem rar_Store_bad (w : World) (p : Nat) (A : Ar) (v : Value) (h : ArR w p A v) (addr : Int) (a : Option Addr) (n c : Nat) (b : List UInt8) (hb : Bs w a n c b) (h0 : 0 ≤ addr) (h1 : addr ≤ 18446744073709551615) (hf : ¬ ((A.base : Int) ≤ addr ∧ addr - A.base + b.length ≤ A.b.length)) :
    Calls Try.prog 145 #[arP p, .int .u64 addr, .slice a n c] w fun e w' => e = .returned (.int .i64 2) ∧ Below w.heap.size w w' := by
  have hn := hb.len
  subst hn
  have hc := Sl.cap hb
  have hr := Sl.room hb
  have K := Lib.hid (rar_There_bad w p A v h addr (b.length : Nat) h0 h1 (by omega) (by omega) hf)
  clear h hb hf
  go_enter Try.func145, Try.ntmps145
  go_wp2_with fail
  refine K.out.mono ?_
  rintro e w1 ⟨rfl, b1⟩
  go_wp2
  go_ret
  exact ⟨rfl, b1⟩
section
variable {B : Nat} {w0 w : World} {l : List Ob} {i p : Nat} {A : Ar}
theorem rar_Store (h : St B w0 w l) (hi : l[i]? = some (RaT p A)) (addr : Int) (h0 : 0 ≤ addr) (h1 : addr ≤ 18446744073709551615) (a : Option Addr) (n c : Nat) (b : List UInt8) (hb : Bs w a n c b) (hd : ∀ v q, ArR w p A v → a = some q → 0 < b.length → ¬ v.ownBlock = some q.block) :
    Calls Try.prog 145 #[arP p, .int .u64 addr, .slice a n c] w fun e w' => e = .returned (.int .i64 (A.store addr b).1) ∧ St B w0 w' (l.set i (RaT p (A.store addr b).2)) := by
  obtain ⟨v, ha, hto⟩ := h.arTo hi
  unfold Ar.store
  split
  · rename_i ht
    refine (rar_Store_ok w p A v ha addr _ (Ar.there_at ht) a n c b hb (fun q => hd v q ha) (Ar.there_le ht rfl)).mono ?_
    rintro e w' ⟨rfl, h2, k2⟩
    exact ⟨rfl, hto w' _ v h2 (k2.mono fun _ _ h => .inr h) (.inl rfl)⟩
  · rename_i ht
    refine (rar_Store_bad w p A v ha addr a n c b hb h0 h1 (Ar.there_no ht)).mono ?_
    rintro e w' ⟨rfl, hb⟩
    exact ⟨rfl, hto w' _ v (ha.below hb) (Keep.of_below hb) (.inl rfl)⟩
theorem rar_Copy (h : St B w0 w l) (hi : l[i]? = some (RaT p A)) (to fr n : Int) (t0 : 0 ≤ to) (t1 : to ≤ 18446744073709551615) (h0 : 0 ≤ fr) (h1 : fr ≤ 18446744073709551615) (n0 : 0 ≤ n) (n1 : n ≤ 18446744073709551615) :
    Calls Try.prog 150 #[arP p, .int .u64 to, .int .u64 fr, .int .u64 n] w fun e w' => e = .returned (.int .i64 (A.copy to fr n).1) ∧ St B w0 w' (l.set i (RaT p (A.copy to fr n).2)) := by
  have K := Lib.hid (rar_Load h hi fr n h0 h1 n0 n1)
  have hld : A.load fr n = (if A.there fr n then (0, (A.b.drop (A.at' fr)).take n.toNat) else (2, [])) := rfl
  by_cases hF : A.there fr n = true
  · rw [if_pos hF] at hld
    have hlen : ((A.b.drop (A.at' fr)).take n.toNat).length = n.toNat := by have := Ar.there_le (m := n.toNat) hF (by omega); simp; omega
    have hst : A.copy to fr n = A.store to ((A.b.drop (A.at' fr)).take n.toNat) := by
      unfold Ar.copy Ar.store
      rw [hlen, show ((n.toNat : Nat) : Int) = n by omega]
      by_cases hT : A.there to n = true
      · rw [if_pos ⟨hF, hT⟩, if_pos hT]
      · rw [if_neg (fun h => hT h.2), if_neg hT]
    rw [hst]
    rw [hld] at K
    have HI := Lib.hid hi
    generalize (A.b.drop (A.at' fr)).take n.toNat = pc at *
    clear h hld hlen hst hF hi
    go_enter Try.func150, Try.ntmps150
    go_wp2_with fail
    refine K.out.mono ?_
    rintro e w1 ⟨v, rfl, h1⟩
    obtain ⟨a, c, rfl, h2⟩ := h1.ownBs
    have hb := h2.bsO (i := 0) rfl
    have hd : ∀ v q, ArR w1 p A v → a = some q → 0 < pc.length → ¬ v.ownBlock = some q.block := by
      obtain ⟨F, G, f1, g1, hfg⟩ := h2.two (i := 0) (j := i + 1) rfl (by rw [List.getElem?_cons_succ]; exact HI.out) (by omega)
      obtain ⟨v0, g1, g2, _⟩ := g1
      intro v q hv hq h0 he
      have : v = v0 := by
        have r1 := hv.row.cell 2; have r2 := g1.row.cell 2
        rw [r1] at r2; simpa using r2
      subst this
      exact hfg _ (f1.2.1 q hq h0) (g2 _ (.inr he))
    have K2 := Lib.hid (rar_Store h2.tail HI.out to t0 t1 a _ c pc hb hd)
    clear h1 h2 hb hd
    go_wp2_with fail
    refine K2.out.mono ?_
    rintro e w2 ⟨rfl, h3⟩
    have H3 := Lib.hid h3
    clear h3
    go_wp2
    go_ret
    exact ⟨rfl, H3.out⟩
  · rw [if_neg hF] at hld
    have hst : A.copy to fr n = (2, A) := by unfold Ar.copy; rw [if_neg (fun h => hF h.1)]
    rw [hst]
    rw [hld] at K
    have hset : l.set i (RaT p A) = l := by
      obtain ⟨hlt, e⟩ := List.getElem?_eq_some_iff.1 hi
      rw [← e]; exact List.set_getElem_self hlt
    have HS := Lib.hid hset
    clear h hi hld hst hF hset
    go_enter Try.func150, Try.ntmps150
    go_wp2_with fail
    refine K.out.mono ?_
    rintro e w1 ⟨v, rfl, h1⟩
    have H1 := Lib.hid h1.tail
    clear h1
    go_wp2
    go_ret
    exact ⟨rfl, by rw [HS.out]; exact H1.out⟩
theorem rar_Grow (h : St B w0 w l) (hi : l[i]? = some (RaT p A)) (n : Int) (hn1 : -9223372036854775808 ≤ n) (hn2 : n ≤ 9223372036854775807) :
    Calls Try.prog 140 #[arP p, .int .i64 n] w fun e w' => e = .returned (.int .i64 (A.grow n).1) ∧ St B w0 w' (l.set i (RaT p (A.grow n).2)) := by
  obtain ⟨v, ha, hto⟩ := h.arTo hi
  unfold Ar.grow
  split
  · rename_i ht
    have HT := Lib.hid (hto w _ v ha (Keep.refl _ _) (.inl rfl))
    clear h hi ha hto
    go_enter Try.func140, Try.ntmps140
    go_wp2
    go_ret
    exact ⟨rfl, HT.out⟩
  · rename_i ht
    obtain ⟨a, c, rfl, hB, hg, hcr⟩ := ha.form
    have q1 : w.cell? ⟨p, 1, none⟩ = some (.int .i64 A.cap) := ha.row.cell 1
    have q2 : w.cell? ⟨p, 2, none⟩ = some (.slice a A.b.length c) := ha.row.cell 2
    have hc1 := ha.hcap; have hc2 := ha.hlen
    have hs1 : IntKind.i64.wrap ((A.cap : Int) - (A.b.length : Int)) = (A.cap : Int) - (A.b.length : Int) := IntWalk.i64_in _ (by omega)
    split
    · rename_i hc
      have hd : decide ((A.cap : Int) - (A.b.length : Int) < n) = true := by simp; omega
      have HT := Lib.hid (fun nq => hto (w.drewN nq) _ _ (ha.drewN nq) ((Keep.refl _ _).drewN nq) (.inl rfl))
      clear h hi ha hto hB hg
      go_enter Try.func140, Try.ntmps140
      go_wp2
      go_quiet (fail)
      clear hs1 hd
      go_wp2
      go_ret
      exact ⟨rfl, HT.out nq⟩
    · rename_i hc
      have hd : decide ((A.cap : Int) - (A.b.length : Int) < n) = false := by simp; omega
      obtain ⟨m, rfl⟩ := Int.eq_ofNat_of_zero_le (show 0 ≤ n by omega)
      have H := Lib.hid ha; have HTO := Lib.hid hto
      clear h hi ha hto hB hg
      go_enter Try.func140, Try.ntmps140
      go_wp2
      go_quiet (fail)
      clear hs1 hd
      have H1 := H.out.drewN nq
      have k1 := (Keep.refl (arF p (.slice a A.b.length c)) w).drewN nq
      have r1 := H1.row
      have hap := H1.apart (by decide)
      have own0 := H1.own
      have HAP := Lib.hid hap
      clear hap H1
      go_wp2_with (at_builtin; go_must (refine app_zeros_own rfl (.tmp 23) (.tmp 24) 31 3 rfl 0 5 (.int .u8 0) 1 Try.underlying31 Try.underlying3 info_u8 rfl rfl (by decide) (.slice a A.b.length c) _ _ rfl own0 _ _ m rfl rfl (by omega) (Nat.zero_le _) ?_; intro v1 w1 own1 kp1 hbl1; obtain ⟨a1, c1, rfl, _, hs1⟩ := Sl.of_owned own1; have r2 := r1.keep kp1 HAP.out; have f2 := r2.frozen 2; have c2 : w1.cell? ⟨p, 2, none⟩ = some (.slice a A.b.length c) := r2.cell 2))
      go_ret
      have r3 := r2.set 2 (.slice a1 (A.b.length + m) c1)
      have k2 := (k1.trans (kp1.mono fun k _ hk => .inr hk)).setCell (p := ⟨p, 2, none⟩) (.inl (.inl rfl)) (.slice a1 (A.b.length + m) c1)
      have k3 := (Keep.refl (· = p) w1).setCell (p := ⟨p, 2, none⟩) (.inl rfl) (.slice a1 (A.b.length + m) c1)
      have hne : ∀ g, (Value.slice a1 (A.b.length + m) c1).ownBlock = some g → ¬ g = p := by
        rintro g hg rfl
        rcases hbl1 with h | h
        · rw [h] at hg; exact HAP.out hg
        · rw [h] at hg
          have : g = (w.drewN nq).heap.size := by simpa using hg.symm
          have := r1.lt
          omega
      have hz : (Int.toNat (m : Int)) = m := by omega
      rw [hz]
      exact ⟨rfl, HTO.out _ _ _ ⟨r3, ownsRow_map (own_kept own1 k3 hne) (by simp) (by simp [bv]), H.out.hbase, H.out.hmod, H.out.hcap, H.out.hmin, by simp; omega⟩ k2 hbl1⟩
theorem rar_Widen (h : St B w0 w l) (hi : l[i]? = some (RaT p A)) (n : Int) :
    Calls Try.prog 142 #[arP p, .int .i64 n] w fun e w' => e = .returned (.int .i64 (A.widen n).1) ∧ St B w0 w' (l.set i (RaT p (A.widen n).2)) := by
  obtain ⟨v, ha, hto⟩ := h.arTo hi
  have q1 : w.cell? ⟨p, 1, none⟩ = some (.int .i64 A.cap) := ha.row.cell 1
  have f1 := ha.row.frozen 1
  unfold Ar.widen
  split
  · rename_i ht
    obtain ⟨t1, t2⟩ := ht
    have hap := ha.apart (by decide)
    obtain ⟨m, rfl⟩ := Int.eq_ofNat_of_zero_le (show 0 ≤ n by omega)
    have H := Lib.hid ha; have HTO := Lib.hid hto; have HAP := Lib.hid hap
    clear h hi ha hto hap
    go_enter Try.func142, Try.ntmps142
    go_wp2
    go_ret
    have r := H.out.row.set 1 (.int .i64 m)
    have ks := (Keep.refl (· = p) w).setCell (p := ⟨p, 1, none⟩) (.inl rfl) (.int .i64 m)
    have h1 := H.out.hmin; have h2 := H.out.hlen
    have hz : (Int.toNat (m : Int)) = m := by omega
    rw [hz]
    exact ⟨rfl, HTO.out _ _ v ⟨r, own_kept H.out.own ks fun g hg e => HAP.out (e ▸ hg), H.out.hbase, H.out.hmod, by show m ≤ 16384; omega, by show 1024 ≤ m; omega, by show A.b.length ≤ m; omega⟩ (ks.mono fun k _ e => .inl e) (.inl rfl)⟩
  · rename_i ht
    have HT := Lib.hid (hto w _ v ha (Keep.refl _ _) (.inl rfl))
    clear h hi ha hto
    by_cases c1 : n < A.cap
    · clear ht
      go_enter Try.func142, Try.ntmps142
      go_wp2
      go_ret
      exact ⟨rfl, HT.out⟩
    · have c2 : 16384 < n := by omega
      clear ht
      go_enter Try.func142, Try.ntmps142
      go_wp2
      go_ret
      exact ⟨rfl, HT.out⟩
set_option maxHeartbeats 2000000 in
theorem rar_Fill (h : St B w0 w l) (hi : l[i]? = some (RaT p A)) (addr n : Int) (x : UInt8) (h0 : 0 ≤ addr) (h1 : addr ≤ 18446744073709551615) (n0 : 0 ≤ n) (n1 : n ≤ 18446744073709551615) :
    Calls Try.prog 151 #[arP p, .int .u64 addr, .int .u64 n, .int .u8 (x.toNat : Nat)] w fun e w' => e = .returned (.int .i64 (A.fill addr n x).1) ∧ St B w0 w' (l.set i (RaT p (A.fill addr n x).2)) := by
  have K := Lib.hid (rar_Load h hi addr n h0 h1 n0 n1)
  have hld : A.load addr n = (if A.there addr n then (0, (A.b.drop (A.at' addr)).take n.toNat) else (2, [])) := rfl
  have hx := x.toNat_lt
  by_cases hF : A.there addr n = true
  · rw [if_pos hF] at hld
    have hle := Ar.there_le (m := n.toNat) hF (by omega)
    have hlen : ((A.b.drop (A.at' addr)).take n.toNat).length = n.toNat := by simp; omega
    have hlm : n.toNat ≤ 16384 := by
      obtain ⟨v, ha⟩ := h.ar hi
      have := ha.hlen; have := ha.hcap; omega
    have hst : A.fill addr n x = A.store addr (List.replicate n.toNat x) := by
      unfold Ar.fill Ar.store
      rw [List.length_replicate, show ((n.toNat : Nat) : Int) = n by omega]
    rw [hst]
    rw [hld] at K
    have HI := Lib.hid hi; have HL := Lib.hid hlen
    obtain ⟨m, hm⟩ : ∃ m, m = n.toNat := ⟨_, rfl⟩
    rw [← hm] at hlm hle ⊢
    rw [← hm] at HL K
    generalize (A.b.drop (A.at' addr)).take m = pc at *
    clear hm h hld hlen hst hF hi
    go_enter Try.func151, Try.ntmps151
    go_wp2_with fail
    refine K.out.mono ?_
    rintro e w1 ⟨v, rfl, h1⟩
    have ho := h1.own (i := 0) rfl
    obtain ⟨a, c, rfl, _, hs⟩ := Sl.of_owned ho
    have hcc := Sl.cap hs; have hcr := Sl.room hs
    have hpl := HL.out
    rw [hpl] at hcc ho
    have hval : ∀ u : Nat, Value.slice a pc.length u = Value.slice a m u := fun u => by rw [hpl]
    rw [hval] at h1 ⊢
    have H1 := Lib.hid h1
    clear h1 ho hs hval hpl
    go_wp2
    go_loopw [11] (fun y wr => ∃ k : Nat, k ≤ m ∧ y = .int .i64 k ∧ St B w0 wr (OwO 5 1 (.slice a m c) m ((List.replicate k x ++ pc.drop k).map bv) :: l)) (fun y _ => m - (intOf y).toNat)
    case atStart =>
      refine ⟨0, Nat.zero_le _, rfl, ?_⟩
      have := H1.out
      rw [List.replicate_zero, List.nil_append, List.drop_zero]
      have e := HL.out
      unfold OwB at this
      rw [e] at this
      exact this
    case round =>
      obtain ⟨k, hk, rfl, hS⟩ := hrel
      by_cases hlt : k < m
      · have hpl := HL.out
        have ho := hS.own (i := 0) rfl
        obtain ⟨g, cap, cur, e1, _⟩ := own_some ho (by simp; omega)
        injection e1 with e1 e2 e3
        subst e1
        have q1 : wr.cell? ⟨g, k, none⟩ = some (bv (pc[k]'(by omega))) := by
          rw [ho.cellAt k (by omega)]
          simp [List.getElem?_append_right, hlt, hpl]
        have q2 := ho.frozenAt k
        obtain ⟨F, f1, f2, f3, f4⟩ := hS.at (i := 0) rfl
        have hnew : (List.replicate k x ++ pc.drop k).set k x = List.replicate (k + 1) x ++ pc.drop (k + 1) := by
          rw [List.set_append_right _ _ (by simp), List.length_replicate, Nat.sub_self, List.drop_eq_getElem_cons (by omega), List.set_cons_zero, List.replicate_succ', List.append_assoc]; rfl
        have hS2 := f4 (wr.setCell ⟨g, k, none⟩ (bv x)) F (OwO 5 1 (.slice (some ⟨g, 0, none⟩) m c) m ((List.replicate (k + 1) x ++ pc.drop (k + 1)).map bv)) rfl ((Keep.refl _ _).setCell (.inl (f1.2.1 g rfl)) _)
          ⟨by rw [← hnew, List.map_set]; exact (f1.1.stored k (bv x)).1, f1.2.1, fun y hy => by simpa using f2 y hy⟩ (fun y hy => .inl hy)
        have HS := Lib.hid hS2
        obtain ⟨u, qu⟩ : ∃ u, wr.cell? ⟨g, k, none⟩ = some u := ⟨_, q1⟩
        clear q1
        clear hS ho f1 f2 f3 f4 hS2 hnew e3 hpl
        go_wp2
        exact ⟨⟨k + 1, by omega, by go_num, HS.out⟩, by simp [intOf]; omega⟩
      · obtain rfl : k = m := by omega
        have hdr : pc.drop k = [] := List.drop_of_length_le (by rw [HL.out]; exact Nat.le_refl _)
        rw [hdr, List.append_nil] at hS
        have hS3 : St B w0 wr (OwO 5 1 (.slice a k c) (List.replicate k x).length ((List.replicate k x).map bv) :: l) := by rw [List.length_replicate]; exact hS
        obtain ⟨a', c', e, h2⟩ := hS3.ownBs
        injection e with e1 e2 e3
        subst e1; subst e3
        rw [List.length_replicate] at h2
        have hb := h2.bsO (i := 0) rfl
        have hd : ∀ v q, ArR wr p A v → a = some q → 0 < (List.replicate k x).length → ¬ v.ownBlock = some q.block := by
          obtain ⟨F, G, f1, g1, hfg⟩ := h2.two (i := 0) (j := i + 1) rfl (by rw [List.getElem?_cons_succ]; exact HI.out) (by omega)
          obtain ⟨v0, g1, g2, _⟩ := g1
          intro v q hv hq h0 he
          have : v = v0 := by
            have r1 := hv.row.cell 2; have r2 := g1.row.cell 2
            rw [r1] at r2; simpa using r2
          subst this
          exact hfg _ (f1.2.1 q hq h0) (g2 _ (.inr he))
        have K2 := Lib.hid (rar_Store h2.tail HI.out addr h0 h1 a _ c _ hb hd)
        clear hS hS3 h2 hb hd hdr e2
        go_wp2_with fail
        refine K2.out.mono ?_
        rintro e w2 ⟨rfl, h3⟩
        have H3 := Lib.hid h3
        clear h3
        go_wp2
        go_ret
        exact ⟨rfl, H3.out⟩
  · rw [if_neg hF] at hld
    have hst : A.fill addr n x = (2, A) := by unfold Ar.fill; rw [if_neg hF]
    rw [hst]
    rw [hld] at K
    have hset : l.set i (RaT p A) = l := by
      obtain ⟨hlt, e⟩ := List.getElem?_eq_some_iff.1 hi
      rw [← e]; exact List.set_getElem_self hlt
    have HS := Lib.hid hset
    clear h hi hld hst hF hset
    go_enter Try.func151, Try.ntmps151
    go_wp2_with fail
    refine K.out.mono ?_
    rintro e w1 ⟨v, rfl, h1⟩
    have H1 := Lib.hid h1.tail
    clear h1
    go_wp2
    go_ret
    exact ⟨rfl, by rw [HS.out]; exact H1.out⟩
end
end Go.Proofs.Ytjijniillehfoaa
