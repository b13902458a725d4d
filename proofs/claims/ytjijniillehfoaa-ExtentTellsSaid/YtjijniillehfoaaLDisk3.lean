import Derived.Test.YtjijniillehfoaaLDisk2
namespace Go.Own
open Go Go.RowKit
/-- A deed of layer 4. -/
structure De4 where
  what : Int
  i : Int
  n : Int
  x : UInt8
  ba : Option Addr
  bn : Nat
  bc : Nat
  b : List UInt8
  ka : Option Addr
  kn : Nat
  kc : Nat
  k : List Bool
def De4.cells (d : De4) : List Value := [.int .i64 d.what, .int .i64 d.i, .int .i64 d.n, bv d.x, .slice d.ba d.bn d.bc, .slice d.ka d.kn d.kc]
structure De4.Ok (w : World) (d : De4) : Prop where
  what : -9223372036854775808 ≤ d.what ∧ d.what ≤ 9223372036854775807
  i : -9223372036854775808 ≤ d.i ∧ d.i ≤ 9223372036854775807
  n : -9223372036854775808 ≤ d.n ∧ d.n ≤ 9223372036854775807
  b : Bs w d.ba d.bn d.bc d.b
  k : Ts w d.ka d.kn d.kc d.k
abbrev shDe4 : Sh := .cons (.int .i64) (.cons (.int .i64) (.cons (.int .i64) (.cons (.int .u8) (.cons (.sl (.int .u8)) (.cons (.sl .bool) .nil)))))
theorem rd_deeds4 {w : World} {a : Option Addr} {n c : Nat} (h : Rd w (.sl shDe4) [.slice a n c]) : ∃ ds : List De4, Sl w a n c 6 (ds.map De4.cells).flatten ∧ ds.length = n ∧ ∀ d ∈ ds, d.Ok w := by
  obtain ⟨a', n', c', rows, he, hn, hr, hs⟩ := h
  cases he
  obtain ⟨ds, rfl, hd⟩ := exists_map (f := De4.cells) (p := fun d => d.Ok w) rows fun r hr' => by
    obtain ⟨_, x0, y0, rfl, _, ⟨v0, rfl, w0⟩, x1, y1, rfl, _, ⟨v1, rfl, w1⟩, x2, y2, rfl, _, ⟨v2, rfl, w2⟩, x3, y3, rfl, _, ⟨v3, rfl, w3⟩, x4, y4, rfl, _, r4, x5, y5, rfl, _, r5, rfl⟩ := hr r hr'
    obtain ⟨ba, bn, bc, rfl, r4⟩ := r4.slice
    obtain ⟨ka, kn, kc, rfl, r5⟩ := r5.slice
    obtain ⟨b, hb⟩ := r4.bytes
    obtain ⟨k, hk⟩ := r5.bools
    simp [Lit.wf, IntKind.min, IntKind.max, IntKind.bits, IntKind.signed] at w0 w1 w2 w3
    refine ⟨⟨v0, v1, v2, UInt8.ofNat v3.toNat, ba, bn, bc, b, ka, kn, kc, k⟩, ?_, ⟨by simp; omega, by simp; omega, by simp; omega, hb, hk⟩⟩
    have e : bv (UInt8.ofNat v3.toNat) = .int .u8 v3 := by rw [bv_nat]; congr 1; omega
    simp [De4.cells, e]
  exact ⟨ds, hs, by simpa using hn, hd⟩
theorem de4_len (d : De4) : d.cells.length = 6 := rfl
/-- Of what stands behind the writes that were kept. -/
theorem standL_at (s : Nat) : ∀ (l : List (Nat × List UInt8)) (keep : Nat → Bool) (k : Nat) (L : List (List UInt8)), s < L.length →
    (standL l keep k L)[s]? = L[s]? ∨ ∃ j x, l[j]? = some x ∧ keep (k + j) = true ∧ x.1 = s ∧ (standL l keep k L)[s]? = some x.2
  | [], _, _, _, _ => .inl rfl
  | (i, b) :: r, keep, k, L, hs => by
    rw [standL_cons]
    by_cases hk : keep k = true
    · rw [if_pos hk]
      rcases standL_at s r keep (k + 1) (L.set i b) (by rw [List.length_set]; exact hs) with h | ⟨j, x, h1, h2, h3, h4⟩
      · by_cases hi : i = s
        · subst hi
          refine .inr ⟨0, (i, b), rfl, hk, rfl, ?_⟩
          rw [h, List.getElem?_set_self hs]
        · rw [h, List.getElem?_set_ne hi]; exact .inl rfl
      · exact .inr ⟨j + 1, x, h1, by rw [show k + (j + 1) = k + 1 + j by omega]; exact h2, h3, h4⟩
    · rw [if_neg hk]
      rcases standL_at s r keep (k + 1) L hs with h | ⟨j, x, h1, h2, h3, h4⟩
      · exact .inl h
      · exact .inr ⟨j + 1, x, h1, by rw [show k + (j + 1) = k + 1 + j by omega]; exact h2, h3, h4⟩
end Go.Own
namespace Go.Proofs.Ytjijniillehfoaa
open Go Go.RowKit Go.Own
set_option linter.unusedVariables false
set_option maxRecDepth 100000
/-- The writes of some deeds. -/
def wrs (ds : List De4) : List (Nat × List UInt8) := ds.map fun d => ((d.i % 4).toNat, secOf d.x)
theorem DkRep.drew {w : World} {p : Nat} {D : Dk} {F : Nat → Prop} (h : DkRep w p D F) : DkRep w.drew p D F := h.kept (G := fun _ => False) ((Keep.refl _ _).drew) fun _ _ h => h
/-- A disk whose blocks all lie in G. -/
def DkIn (G : Nat → Prop) (w : World) (p : Nat) (D : Dk) : Prop := ∃ F, DkRep w p D F ∧ ∀ k, F k → G k ∧ k < w.heap.size
theorem DkIn.to {G : Nat → Prop} {w w' : World} {p : Nat} {D : Dk} {F : Nat → Prop} (h : DkTo p D F w w') (hF : ∀ k, F k → G k) (hB : ∀ k, w.heap.size ≤ k → G k) : DkIn G w' p D ∧ Keep G w w' := by
  obtain ⟨F', h1, h2, h3⟩ := h
  exact ⟨⟨_, h1.tight, fun k hk => ⟨(h3 k hk.1).elim (hF k) (hB k), hk.2⟩⟩, h2.mono fun k _ hk => hF k hk⟩
theorem DkIn.below {G : Nat → Prop} {w w' : World} {p : Nat} {D : Dk} (h : DkIn G w p D) (k : Below w.heap.size w w') : DkIn G w' p D := by
  obtain ⟨F, h1, h2⟩ := h
  exact ⟨F, h1.below k, fun x hx => ⟨(h2 x hx).1, Nat.lt_of_lt_of_le (h2 x hx).2 k.size⟩⟩
theorem DkIn.drew {G : Nat → Prop} {w : World} {p : Nat} {D : Dk} (h : DkIn G w p D) : DkIn G w.drew p D := by
  obtain ⟨F, h1, h2⟩ := h
  exact ⟨F, DkRep.drew h1, h2⟩
theorem DkIn.mono {G H : Nat → Prop} {w : World} {p : Nat} {D : Dk} (h : DkIn G w p D) (hg : ∀ k, k < w.heap.size → G k → H k) : DkIn H w p D := by
  obtain ⟨F, h1, h2⟩ := h
  exact ⟨F, h1, fun k hk => ⟨hg k (h2 k hk).2 (h2 k hk).1, (h2 k hk).2⟩⟩
theorem wrs_take (ds : List De4) (k : Nat) (hk : k < ds.length) : wrs (ds.take (k + 1)) = wrs (ds.take k) ++ [((ds[k].i % 4).toNat, secOf ds[k].x)] := by
  unfold wrs; rw [List.take_succ_eq_append_getElem hk, List.map_append]; rfl
theorem wrs_len (ds : List De4) (k : Nat) : (wrs (ds.take k)).length ≤ ds.length := by unfold wrs; rw [List.length_map, List.length_take]; omega
theorem stands_at (ds : List De4) (kl : List Bool) (LL L2 : List (List UInt8)) (hL : LL.length = 4) (h : L2 = standL (wrs ds) (fun k => kl.getD k false) 0 LL) (s : Nat) (hs : s < 4) (X Y : List UInt8)
    (hX : L2[s]? = some X) (hY : LL[s]? = some Y) : X = Y ∨ ∃ (j : Nat) (d : De4), ds[j]? = some d ∧ d.i % 4 = s ∧ j < kl.length ∧ X = secOf d.x := by
  subst h
  rcases standL_at s (wrs ds) (fun k => kl.getD k false) 0 LL (by omega) with h | ⟨j, x, h1, h2, h3, h4⟩
  · rw [hX, hY] at h; exact .inl (Option.some.inj h)
  · unfold wrs at h1
    rw [List.getElem?_map, Option.map_eq_some_iff] at h1
    obtain ⟨d, hd, rfl⟩ := h1
    rw [hX] at h4
    simp only [Nat.zero_add] at h2
    have hj : j < kl.length := by
      rcases Nat.lt_or_ge j kl.length with h | h
      · exact h
      · rw [List.getD_eq_getElem?_getD, List.getElem?_eq_none h] at h2; simp at h2
    exact .inr ⟨j, d, hd, by simp only at h3; omega, hj, Option.some.inj h4⟩
theorem sec_piece {L : List (List UInt8)} (h : Secs L) (i : Nat) (hi : i < L.length) (q : Nat) (hq : q = 512 * i) : (L.flatten.take (q + 512)).drop q = L[i] := by
  subst hq
  rw [List.drop_take, show 512 * i + 512 - 512 * i = 512 by omega]
  exact secs_at h i hi
set_option maxHeartbeats 16000000 in
theorem diskStands (w : World) (a1 : Option Addr) (n1 c1 : Nat) (a2 : Option Addr) (n2 c2 : Nat) (a3 : Option Addr) (n3 c3 : Nat)
    (r1 : Rd w (.sl shDe4) [.slice a1 n1 c1]) (r2 : Rd w (.sl shDe4) [.slice a2 n2 c2]) (r3 : Rd w (.sl .bool) [.slice a3 n3 c3]) :
    Calls Try.prog 3 #[.slice a1 n1 c1, .slice a2 n2 c2, .slice a3 n3 c3] w fun e w' => e = .returned (.bool true) ∧ Below w.heap.size w w' := by
  obtain ⟨ds1, s1, hn1, ok1⟩ := rd_deeds4 r1
  obtain ⟨ds2, s2, hn2, ok2⟩ := rd_deeds4 r2
  obtain ⟨kl, hkl⟩ := r3.bools
  have hn3 := ts_len hkl
  subst hn1; subst hn2; subst hn3
  have p1 := s1.cap; have q1 := s1.room; have p2 := s2.cap; have q2 := s2.room; have p3 := Sl.cap hkl; have q3 := Sl.room hkl
  have S1 := Lib.hid s1; have S2 := Lib.hid s2; have HK := Lib.hid hkl; have OK1 := Lib.hid ok1; have OK2 := Lib.hid ok2
  clear r1 r2 r3 s1 s2 hkl ok1 ok2
  go_enter Try.func3, Try.ntmps3
  go_wp2_with fail
  refine (up04 w).mono ?_
  rintro e w1 ⟨rfl, b1⟩
  go_wp2_with fail
  refine (disk_New w1 4 4 rfl (by decide) (by decide)).mono ?_
  rintro e w2 ⟨p, rfl, h2, hp2, b2⟩
  have B2 := b1.trans (b2.mono b1.size)
  have hd2 : DkIn (fun x => w.heap.size ≤ x) w2 p ⟨zeroL 4, wrs (ds1.take 0), false, -1⟩ := ⟨_, h2.tight, fun k hk => ⟨Nat.le_trans b1.size hk.1, hk.2⟩⟩
  have BB2 := Lib.hid B2; have HD2 := Lib.hid hd2
  clear b1 b2 h2 B2 hd2 hp2
  by_cases hl1 : ds1.length > 60
  · go_wp2
    go_ret
    exact ⟨rfl, BB2.out⟩
  by_cases hl2 : ds2.length > 60
  · go_wp2
    go_ret
    exact ⟨rfl, BB2.out⟩
  go_wp2
  go_loopw [9] (fun v wr => ∃ k : Nat, k ≤ ds1.length ∧ v = .int .i64 k ∧ DkIn (fun x => w.heap.size ≤ x) wr p ⟨zeroL 4, wrs (ds1.take k), false, -1⟩ ∧ Below w.heap.size w wr) (fun v _ => ds1.length - (intOf v).toNat)
  case atStart => exact ⟨0, Nat.zero_le _, rfl, HD2.out, BB2.out⟩
  case round =>
    obtain ⟨k, hk, rfl, hd, hb⟩ := hrel
    by_cases hlt : k < ds1.length
    · obtain ⟨bb, oo, rfl, hc⟩ := sl_at S1.out de4_len (by decide) k hlt
      have hx1 := hc 1 _ rfl
      have hbb := World.block_lt_of_cell? w _ hx1
      simp only at hbb
      have hx3 := hc 3 _ rfl
      have hok := OK1.out ds1[k] (List.getElem_mem hlt)
      have htk : wrs (ds1.take (k + 1)) = wrs (ds1.take k) ++ [((ds1[k].i % 4).toNat, secOf ds1[k].x)] := by
        unfold wrs; rw [List.take_succ_eq_append_getElem hlt, List.map_append]; rfl
      have hwl : (wrs (ds1.take k)).length ≤ 60 := by unfold wrs; rw [List.length_map, List.length_take]; omega
      have hi := hok.i
      generalize ds1[k].i = di at *
      generalize ds1[k].x = dx at *
      have hkb := keep_of_below hb
      have HC1 := Lib.hid hx1; have HC3 := Lib.hid hx3; have HTK := Lib.hid htk; have HKB := Lib.hid hkb; have HB := Lib.hid hb
      have hd := DkIn.drew hd
      have sz0 := hb.size
      clear hx1 hx3 htk hkb hc hok hb HD2 BB2
      go_wp2
      refine flowe_begin (F := fun x => w.heap.size ≤ x) hmixed 15 rfl (by repeat (first | exact ps_body | refine ps_then ?_ | refine ps_block ?_)) (fun hps => ?_)
      simp only [List.replicate]
      have kk := (Keep.refl (fun x => w.heap.size ≤ x) (wr)).drew
      refine flowe_take 0 (v := ?_) (a' := ?_) hps rfl (by kernel_rfl) rfl ?_ ?_ ?_
      rotate_left 2
      · intro w' hk; go_simp; try rfl
      · simp only [Act.put, List.setIfInBounds_toArray, List.set_cons_succ, List.set_cons_zero]; try rfl
      refine flowe_take 1 (v := ?_) (a' := ?_) hps rfl (by kernel_rfl) rfl ?_ ?_ ?_
      rotate_left 2
      · intro w' hk; go_simp; try rfl
      · simp only [Act.put, List.setIfInBounds_toArray, List.set_cons_succ, List.set_cons_zero]; try rfl
      refine flowe_take 2 (v := ?_) (a' := ?_) hps rfl (by kernel_rfl) rfl ?_ ?_ ?_
      rotate_left 2
      · intro w' hk; go_simp; try rfl
      · simp only [Act.put, List.setIfInBounds_toArray, List.set_cons_succ, List.set_cons_zero]; try rfl
      refine flowe_take 3 (v := ?_) (a' := ?_) hps rfl (by kernel_rfl) rfl ?_ ?_ ?_
      rotate_left 2
      · intro w' hk; go_simp; try rfl
      · simp only [Act.put, List.setIfInBounds_toArray, List.set_cons_succ, List.set_cons_zero]; try rfl
      refine flowe_take 4 (v := ?_) (a' := ?_) hps rfl (by kernel_rfl) rfl ?_ ?_ ?_
      rotate_left 2
      · intro w' hk; go_simp; try rfl
      · simp only [Act.put, List.setIfInBounds_toArray, List.set_cons_succ, List.set_cons_zero]; try rfl
      refine flowe_take 5 (v := ?_) (a' := ?_) hps rfl (by kernel_rfl) rfl ?_ ?_ ?_
      rotate_left 2
      · intro w' hk; have hc : w'.cell? ⟨bb, oo + k * 6 + 1, none⟩ = some (.int .i64 di) := (keep_cell (HKB.out.drew.trans hk) HC1.out); go_simp; try rfl
      · simp only [Act.put, List.setIfInBounds_toArray, List.set_cons_succ, List.set_cons_zero]; try rfl
      refine flowe_take 7 (v := ?_) (a' := ?_) hps rfl (by kernel_rfl) rfl ?_ ?_ ?_
      rotate_left 2
      · intro w' hk; go_simp; try rfl
      · simp only [Act.put, List.setIfInBounds_toArray, List.set_cons_succ, List.set_cons_zero]; try rfl
      refine flowe_take 8 (v := ?_) (a' := ?_) hps rfl (by kernel_rfl) rfl ?_ ?_ ?_
      rotate_left 2
      · intro w' hk; go_simp; try rfl
      · simp only [Act.put, List.setIfInBounds_toArray, List.set_cons_succ, List.set_cons_zero]; try rfl
      refine flowe_take 9 (v := ?_) (a' := ?_) hps rfl (by kernel_rfl) rfl ?_ ?_ ?_
      rotate_left 2
      · intro w' hk; go_simp; try rfl
      · simp only [Act.put, List.setIfInBounds_toArray, List.set_cons_succ, List.set_cons_zero]; try rfl
      refine flowe_take 10 (v := ?_) (a' := ?_) hps rfl (by kernel_rfl) rfl ?_ ?_ ?_
      rotate_left 2
      · intro w' hk; go_simp; try rfl
      · simp only [Act.put, List.setIfInBounds_toArray, List.set_cons_succ, List.set_cons_zero]; try rfl
      refine flowe_take 11 (v := ?_) (a' := ?_) hps rfl (by kernel_rfl) rfl ?_ ?_ ?_
      rotate_left 2
      · intro w' hk; have hc : w'.cell? ⟨bb, oo + k * 6 + 3, none⟩ = some (.int .u8 (dx.toNat : Nat)) := (keep_cell (HKB.out.drew.trans hk) HC3.out); go_simp; try rfl
      · simp only [Act.put, List.setIfInBounds_toArray, List.set_cons_succ, List.set_cons_zero]; try rfl
      refine flowe_one 6 hps rfl (by kernel_rfl) rfl (wp_next (fun K hK => ?_))
      go_simp
      go_at_call 29
      refine (law_Pick _ di 4 hi.1 hi.2 (by decide) (by decide)).mono ?_
      rintro e w' ⟨rfl, rfl⟩
      refine hK _ _ (flow_step kk ?_ ?_)
      · first | exact kp | exact Keep.refl _ _ | exact (Keep.refl _ _).alloc _
      clear kk hK; try clear kp
      intro kk
      refine flowe_one 12 hps rfl (by kernel_rfl) rfl (wp_next (fun K hK => ?_))
      go_simp
      go_at_call 30
      refine (law_Sector _ dx).mono ?_
      rintro e w5 ⟨v5, rfl, o5, b5⟩
      obtain ⟨a5, c5, rfl, _, hB5⟩ := bsOf o5 (secOf_len dx)
      replace hd := hd.below b5
      have sz5 := b5.size
      have kp := Keep.of_below (F := fun x => w.heap.size ≤ x) b5
      clear o5 b5
      refine hK _ _ (flow_step kk ?_ ?_)
      · first | exact kp | exact Keep.refl _ _ | exact (Keep.refl _ _).alloc _
      clear kk hK; try clear kp
      intro kk
      refine flowe_one 13 hps rfl (by kernel_rfl) rfl (wp_next (fun K hK => ?_))
      go_simp
      go_at_call 28
      obtain ⟨F5, hd5, hF5⟩ := hd
      refine (disk_Write_ok w5 p _ F5 hd5 (di % 4) (di % 4).toNat (by omega) _ _ _ _ hB5 (by show (di % 4).toNat < (zeroL 4).length; rw [zeroL_len]; omega) (secOf_len dx) rfl (by show (-1 : Int) ≠ 0; decide) (Nat.le_trans hwl (by decide))).mono ?_
      rintro e w6 ⟨rfl, h6⟩
      obtain ⟨hd6, kp⟩ := DkIn.to h6 (fun x hx => (hF5 x hx).1) (fun x hx => Nat.le_trans (Nat.le_trans sz0 sz5) hx)
      refine hK _ _ (flow_step kk ?_ ?_)
      · first | exact kp | exact Keep.refl _ _ | exact (Keep.refl _ _).alloc _
      clear kk hK; try clear kp
      intro kk
      refine flowe_take 14 (v := ?_) (a' := ?_) hps rfl (by kernel_rfl) rfl ?_ ?_ ?_
      rotate_left 2
      · intro w' hk; go_simp; try rfl
      · simp only [Act.put, List.setIfInBounds_toArray, List.set_cons_succ, List.set_cons_zero]; try rfl
      refine flowe_done hps (by kernel_rfl) ?_
      have HD6 := Lib.hid hd6; have KK := Lib.hid kk
      clear hd6 kk hB5 hd5 h6 hF5
      go_wp2
      refine ⟨⟨k + 1, by omega, by go_num, ?_, HB.out.trans (KK.out.below sz0 fun x hx hf => by omega)⟩, by simp [intOf]; omega⟩
      rw [HTK.out]; exact HD6.out
    · have hwl := wrs_len ds1 k
      have hlen1 : (wrs (ds1.take k)).length ≤ 1000000 := by omega
      clear hwl
      generalize wrs (ds1.take k) = W1 at *
      obtain ⟨F1, hd1, hF1⟩ := hd
      have sz0 := hb.size
      have HD1 := Lib.hid hd1; have HF1 := Lib.hid hF1; have HB := Lib.hid hb
      clear hd1 hF1 hb HD2 BB2 OK1 S1
      go_wp2_with fail
      refine (disk_Flush_ok wr p _ F1 HD1.out rfl hlen1).mono ?_
      rintro e w11 ⟨rfl, h11⟩
      obtain ⟨LL, hLL, hSL, hL4⟩ : ∃ LL, (⟨zeroL 4, W1, false, -1⟩ : Dk).stand (fun _ => true) = ⟨LL, [], false, -1⟩ ∧ Secs LL ∧ LL.length = 4 := by
        have hg := HD1.out.good
        obtain ⟨x1, x2⟩ := standL_secs W1 (fun _ => true) 0 (zeroL 4) hg.secs hg.waits
        exact ⟨_, rfl, x1, x2.trans (zeroL_len 4)⟩
      rw [hLL] at h11
      obtain ⟨hd11, k11⟩ := DkIn.to (G := fun x => w.heap.size ≤ x) h11 (fun x hx => (HF1.out x hx).1) (fun x hx => Nat.le_trans sz0 hx)
      have b11 := HB.out.trans (k11.below sz0 fun x hx hf => by omega)
      have HD11 := Lib.hid hd11; have HB11 := Lib.hid b11; have HSL := Lib.hid hSL; have HL4 := Lib.hid hL4
      have sz11 := b11.size
      clear h11 hLL hSL hL4 hd11 k11 b11 HB HD1 HF1 hlen1
      go_wp2_with fail
      obtain ⟨F2, hd2, hF2⟩ := HD11.out
      refine (disk_Bytes w11 p _ F2 hd2).mono ?_
      rintro e w12 ⟨v12, rfl, o12, b12⟩
      have hfl : LL.flatten.length = 2048 := by rw [secs_len HSL.out, HL4.out]
      obtain ⟨a12, c12, rfl, ha12, hB12⟩ := bsOf o12 hfl
      obtain ⟨g, og, rfl, hlt⟩ := Sl.some hB12 (by decide) (by decide)
      have hg1 : w11.heap.size ≤ g := ha12 _ rfl
      have hg2 : g < w12.heap.size := hlt
      have hd12 : DkIn (fun x => w.heap.size ≤ x ∧ x ≠ g) w12 p ⟨LL, [], false, -1⟩ := DkIn.below ⟨F2, hd2, fun x hx => ⟨⟨(hF2 x hx).1, by have := (hF2 x hx).2; omega⟩, (hF2 x hx).2⟩⟩ b12
      have bb12 := HB11.out.trans (b12.mono sz11)
      have sz12 := b12.size
      have HD12 := Lib.hid hd12; have HB12 := Lib.hid hB12; have BB12 := Lib.hid bb12
      clear o12 b12 ha12 hB12 hlt hd12 bb12 hd2 hF2 HD11 HB11
      go_wp2
      go_loopw [12] (fun v wr => ∃ k : Nat, k ≤ ds2.length ∧ v = .int .i64 k ∧ DkIn (fun x => w.heap.size ≤ x ∧ x ≠ g) wr p ⟨LL, wrs (ds2.take k), false, -1⟩ ∧ Keep (fun x => w.heap.size ≤ x ∧ x ≠ g) w12 wr) (fun v _ => ds2.length - (intOf v).toNat)
      case atStart => exact ⟨0, Nat.zero_le _, rfl, HD12.out, .refl _ _⟩
      case round =>
        obtain ⟨k, hk, rfl, hd, hb⟩ := hrel
        have hkw : Keep (fun x => w.heap.size ≤ x) w wr := (keep_of_below BB12.out).trans (hb.mono fun x _ hx => hx.1)
        have KW := Lib.hid hkw; have HB := Lib.hid hb
        have sz20 := hkw.size
        have sz21 := hb.size
        by_cases hlt : k < ds2.length
        · obtain ⟨bb, oo, rfl, hc⟩ := sl_at S2.out de4_len (by decide) k hlt
          have hx1 := hc 1 _ rfl
          have hbb := World.block_lt_of_cell? w _ hx1
          simp only at hbb
          have hx3 := hc 3 _ rfl
          have hok := OK2.out ds2[k] (List.getElem_mem hlt)
          have htk := wrs_take ds2 k hlt
          have hwl := wrs_len ds2 k
          have hi := hok.i
          generalize ds2[k].i = di at *
          generalize ds2[k].x = dx at *
          have HC1 := Lib.hid hx1; have HC3 := Lib.hid hx3; have HTK := Lib.hid htk
          have hd := DkIn.drew hd
          clear hx1 hx3 htk hc hok hkw hb HD12 BB12
          go_wp2
          refine flowe_begin (F := fun x => w.heap.size ≤ x ∧ x ≠ g) hmixed 15 rfl (by repeat (first | exact ps_body | refine ps_then ?_ | refine ps_block ?_)) (fun hps => ?_)
          simp only [List.replicate]
          have kk := (Keep.refl (fun x => w.heap.size ≤ x ∧ x ≠ g) (wr)).drew
          refine flowe_take 0 (v := ?_) (a' := ?_) hps rfl (by kernel_rfl) rfl ?_ ?_ ?_
          rotate_left 2
          · intro w' hk; go_simp; try rfl
          · simp only [Act.put, List.setIfInBounds_toArray, List.set_cons_succ, List.set_cons_zero]; try rfl
          refine flowe_take 1 (v := ?_) (a' := ?_) hps rfl (by kernel_rfl) rfl ?_ ?_ ?_
          rotate_left 2
          · intro w' hk; go_simp; try rfl
          · simp only [Act.put, List.setIfInBounds_toArray, List.set_cons_succ, List.set_cons_zero]; try rfl
          refine flowe_take 2 (v := ?_) (a' := ?_) hps rfl (by kernel_rfl) rfl ?_ ?_ ?_
          rotate_left 2
          · intro w' hk; go_simp; try rfl
          · simp only [Act.put, List.setIfInBounds_toArray, List.set_cons_succ, List.set_cons_zero]; try rfl
          refine flowe_take 3 (v := ?_) (a' := ?_) hps rfl (by kernel_rfl) rfl ?_ ?_ ?_
          rotate_left 2
          · intro w' hk; go_simp; try rfl
          · simp only [Act.put, List.setIfInBounds_toArray, List.set_cons_succ, List.set_cons_zero]; try rfl
          refine flowe_take 4 (v := ?_) (a' := ?_) hps rfl (by kernel_rfl) rfl ?_ ?_ ?_
          rotate_left 2
          · intro w' hk; go_simp; try rfl
          · simp only [Act.put, List.setIfInBounds_toArray, List.set_cons_succ, List.set_cons_zero]; try rfl
          refine flowe_take 5 (v := ?_) (a' := ?_) hps rfl (by kernel_rfl) rfl ?_ ?_ ?_
          rotate_left 2
          · intro w' hk; have hc : w'.cell? ⟨bb, oo + k * 6 + 1, none⟩ = some (.int .i64 di) := (keep_cell (KW.out.drew.trans (hk.mono fun x _ hx => hx.1)) HC1.out); go_simp; try rfl
          · simp only [Act.put, List.setIfInBounds_toArray, List.set_cons_succ, List.set_cons_zero]; try rfl
          refine flowe_take 7 (v := ?_) (a' := ?_) hps rfl (by kernel_rfl) rfl ?_ ?_ ?_
          rotate_left 2
          · intro w' hk; go_simp; try rfl
          · simp only [Act.put, List.setIfInBounds_toArray, List.set_cons_succ, List.set_cons_zero]; try rfl
          refine flowe_take 8 (v := ?_) (a' := ?_) hps rfl (by kernel_rfl) rfl ?_ ?_ ?_
          rotate_left 2
          · intro w' hk; go_simp; try rfl
          · simp only [Act.put, List.setIfInBounds_toArray, List.set_cons_succ, List.set_cons_zero]; try rfl
          refine flowe_take 9 (v := ?_) (a' := ?_) hps rfl (by kernel_rfl) rfl ?_ ?_ ?_
          rotate_left 2
          · intro w' hk; go_simp; try rfl
          · simp only [Act.put, List.setIfInBounds_toArray, List.set_cons_succ, List.set_cons_zero]; try rfl
          refine flowe_take 10 (v := ?_) (a' := ?_) hps rfl (by kernel_rfl) rfl ?_ ?_ ?_
          rotate_left 2
          · intro w' hk; go_simp; try rfl
          · simp only [Act.put, List.setIfInBounds_toArray, List.set_cons_succ, List.set_cons_zero]; try rfl
          refine flowe_take 11 (v := ?_) (a' := ?_) hps rfl (by kernel_rfl) rfl ?_ ?_ ?_
          rotate_left 2
          · intro w' hk; have hc : w'.cell? ⟨bb, oo + k * 6 + 3, none⟩ = some (.int .u8 (dx.toNat : Nat)) := (keep_cell (KW.out.drew.trans (hk.mono fun x _ hx => hx.1)) HC3.out); go_simp; try rfl
          · simp only [Act.put, List.setIfInBounds_toArray, List.set_cons_succ, List.set_cons_zero]; try rfl
          refine flowe_one 6 hps rfl (by kernel_rfl) rfl (wp_next (fun K hK => ?_))
          go_simp
          go_at_call 29
          refine (law_Pick _ di 4 hi.1 hi.2 (by decide) (by decide)).mono ?_
          rintro e w' ⟨rfl, rfl⟩
          refine hK _ _ (flow_step kk ?_ ?_)
          · first | exact kp | exact Keep.refl _ _ | exact (Keep.refl _ _).alloc _
          clear kk hK; try clear kp
          intro kk
          refine flowe_one 12 hps rfl (by kernel_rfl) rfl (wp_next (fun K hK => ?_))
          go_simp
          go_at_call 30
          refine (law_Sector _ dx).mono ?_
          rintro e w5 ⟨v5, rfl, o5, b5⟩
          obtain ⟨a5, c5, rfl, _, hB5⟩ := bsOf o5 (secOf_len dx)
          replace hd := hd.below b5
          have sz5 := b5.size
          have kp := Keep.of_below (F := fun x => w.heap.size ≤ x ∧ x ≠ g) b5
          clear o5 b5
          refine hK _ _ (flow_step kk ?_ ?_)
          · first | exact kp | exact Keep.refl _ _ | exact (Keep.refl _ _).alloc _
          clear kk hK; try clear kp
          intro kk
          refine flowe_one 13 hps rfl (by kernel_rfl) rfl (wp_next (fun K hK => ?_))
          go_simp
          go_at_call 28
          obtain ⟨F5, hd5, hF5⟩ := hd
          refine (disk_Write_ok w5 p _ F5 hd5 (di % 4) (di % 4).toNat (by omega) _ _ _ _ hB5 (by show (di % 4).toNat < LL.length; rw [HL4.out]; omega) (secOf_len dx) rfl (by show (-1 : Int) ≠ 0; decide) (by show (wrs (ds2.take k)).length ≤ _; omega)).mono ?_
          rintro e w6 ⟨rfl, h6⟩
          obtain ⟨hd6, kp⟩ := DkIn.to h6 (fun x hx => (hF5 x hx).1) (fun x hx => by have : w12.heap.size ≤ w5.heap.size := Nat.le_trans sz21 sz5; exact ⟨Nat.le_trans (Nat.le_trans sz20 sz5) hx, by omega⟩)
          refine hK _ _ (flow_step kk ?_ ?_)
          · first | exact kp | exact Keep.refl _ _ | exact (Keep.refl _ _).alloc _
          clear kk hK; try clear kp
          intro kk
          refine flowe_take 14 (v := ?_) (a' := ?_) hps rfl (by kernel_rfl) rfl ?_ ?_ ?_
          rotate_left 2
          · intro w' hk; go_simp; try rfl
          · simp only [Act.put, List.setIfInBounds_toArray, List.set_cons_succ, List.set_cons_zero]; try rfl
          refine flowe_done hps (by kernel_rfl) ?_
          have HD6 := Lib.hid hd6; have KK := Lib.hid kk
          clear hd6 kk hB5 hd5 h6 hF5
          go_wp2
          refine ⟨⟨k + 1, by omega, by go_num, ?_, HB.out.trans KK.out⟩, by simp [intOf]; omega⟩
          rw [HTK.out]; exact HD6.out
        · have hke : k = ds2.length := by omega
          have htk : wrs (ds2.take k) = wrs ds2 := by rw [hke, List.take_length]
          rw [htk] at hd
          have hwl : (wrs ds2).length ≤ 1000000 := by unfold wrs; rw [List.length_map]; omega
          have hwas := (HB12.out.keep hb fun q hq hf => by cases hq; exact hf.2 rfl)
          have hwd := hwas.drew
          have hdd := DkIn.drew hd
          have HD := Lib.hid hd; have HWAS := Lib.hid hwas
          clear hb hkw HD12 hd htk
          go_wp2
          obtain ⟨F3, hd3, hF3⟩ := hdd
          refine flowe_begin (F := fun _ => False) hmixed 11 rfl (by repeat (first | exact ps_body | refine ps_then ?_ | refine ps_block ?_)) (fun hps => ?_)
          simp only [List.replicate]
          have kk := (Keep.refl (fun _ => False) (wr)).drew
          refine flowe_take 0 (v := ?_) (a' := ?_) hps rfl (by kernel_rfl) rfl ?_ ?_ ?_
          rotate_left 2
          · intro w' hk; go_simp; try rfl
          · simp only [Act.put, List.setIfInBounds_toArray, List.set_cons_succ, List.set_cons_zero]; try rfl
          refine flowe_take 3 (v := ?_) (a' := ?_) hps rfl (by kernel_rfl) rfl ?_ ?_ ?_
          rotate_left 2
          · intro w' hk; go_simp; try rfl
          · simp only [Act.put, List.setIfInBounds_toArray, List.set_cons_succ, List.set_cons_zero]; try rfl
          refine flowe_take 4 (v := ?_) (a' := ?_) hps rfl (by kernel_rfl) rfl ?_ ?_ ?_
          rotate_left 2
          · intro w' hk; first | (have hs := run_s w' (hwd13.keep hk (fun _ _ h => h)); go_simp; rfl) | (have hs := run_s w' (hwd.keep hk (fun _ _ h => h)); go_simp; rfl)
          · simp only [Act.put, List.setIfInBounds_toArray, List.set_cons_succ, List.set_cons_zero]; try rfl
          refine flowe_one 1 hps rfl (by kernel_rfl) rfl (wp_next (fun K hK => ?_))
          go_simp
          go_at_call 32
          refine (disk_Bytes _ p _ F3 hd3).mono ?_
          rintro e w13 ⟨v13, rfl, o13, b13⟩
          obtain ⟨a13, c13, rfl, _, hB13⟩ := bsOf o13 hfl
          have hwd13 := hwd.below b13
          have kp := Keep.of_below (F := fun _ => False) b13
          clear o13 b13
          refine hK _ _ (flow_step kk ?_ ?_)
          · first | exact kp | exact Keep.refl _ _ | exact (Keep.refl _ _).alloc _
          clear kk hK; try clear kp
          intro kk
          refine flowe_take 2 (v := ?_) (a' := ?_) hps rfl (by kernel_rfl) rfl ?_ ?_ ?_
          rotate_left 2
          · intro w' hk; have hs := run_s w' (hB13.keep hk (fun _ _ h => h)); go_simp; try rfl
          · simp only [Act.put, List.setIfInBounds_toArray, List.set_cons_succ, List.set_cons_zero]; try rfl
          refine flowe_take 5 (v := ?_) (a' := ?_) hps rfl (by kernel_rfl) rfl ?_ ?_ ?_
          rotate_left 2
          · intro w' hk; go_simp; try rfl
          · simp only [Act.put, List.setIfInBounds_toArray, List.set_cons_succ, List.set_cons_zero]; try rfl
          refine flowe_take 6 (v := ?_) (a' := ?_) hps rfl (by kernel_rfl) rfl ?_ ?_ ?_
          rotate_left 2
          · intro w' hk; go_simp; try rfl
          · simp only [Act.put, List.setIfInBounds_toArray, List.set_cons_succ, List.set_cons_zero]; try rfl
          refine flowe_take 7 (v := ?_) (a' := ?_) hps rfl (by kernel_rfl) rfl ?_ ?_ ?_
          rotate_left 2
          · intro w' hk; go_simp; try rfl
          · simp only [Act.put, List.setIfInBounds_toArray, List.set_cons_succ, List.set_cons_zero]; try rfl
          refine flowe_take 8 (v := ?_) (a' := ?_) hps rfl (by kernel_rfl) rfl ?_ ?_ ?_
          rotate_left 2
          · intro w' hk; go_simp; try rfl
          · simp only [Act.put, List.setIfInBounds_toArray, List.set_cons_succ, List.set_cons_zero]; try rfl
          refine flowe_take 9 (v := ?_) (a' := ?_) hps rfl (by kernel_rfl) rfl ?_ ?_ ?_
          rotate_left 2
          · intro w' hk; go_simp; try rfl
          · simp only [Act.put, List.setIfInBounds_toArray, List.set_cons_succ, List.set_cons_zero]; try rfl
          refine flowe_take 10 (v := ?_) (a' := ?_) hps rfl (by kernel_rfl) rfl ?_ ?_ ?_
          rotate_left 2
          · intro w' hk; go_simp; try rfl
          · simp only [Act.put, List.setIfInBounds_toArray, List.set_cons_succ, List.set_cons_zero]; try rfl
          refine flowe_done hps (by kernel_rfl) ?_
          have b13 := kk.below (Nat.le_refl _) (fun _ _ h => h)
          have hd13 := DkIn.below HD.out b13
          have hw13 := HWAS.out.below b13
          have kw13 : Keep (fun x => w.heap.size ≤ x) w w13 := KW.out.trans (Keep.of_below b13)
          have hk13 := ts_keep2 HK.out kw13 fun q hq h0 hf => by
            have h1 := Sl.len HK.out
            obtain ⟨b, o, e, hlt⟩ := Sl.some HK.out (by omega) (by decide)
            rw [e] at hq; cases hq; exact absurd hf (by show ¬ w.heap.size ≤ b; omega)
          have hko : ∀ q, a3 = some q → 0 < kl.length → q.block < w.heap.size := fun q hq h0 => by
            obtain ⟨b, o, e, hlt⟩ := Sl.some HK.out (by omega) (by decide)
            rw [e] at hq; cases hq; exact hlt
          have sz13 := b13.size
          have HD13 := Lib.hid hd13; have HW13 := Lib.hid hw13; have KW13 := Lib.hid kw13; have HK13 := Lib.hid hk13
          clear kk hwd hwd13 hB13 hd3 hF3 hd13 hw13 kw13 hk13 HD HWAS KW HB b13
          obtain ⟨F4, hd4, hF4⟩ := HD13.out
          have hgd := hd4.good
          have HD4 := Lib.hid hd4
          clear hd4 HD13
          go_wp2_with fail
          refine (disk_Boot w13 p _ F4 HD4.out hwl a3 kl.length c3 kl HK13.out (fun q hq h0 hf => by have h1 := hko q hq h0; have h2 := (hF4 _ hf).1.1; omega)).mono ?_
          rintro e w14 ⟨rfl, h14⟩
          obtain ⟨L2, hL2, hS2, hL24, hst⟩ : ∃ L2, (⟨LL, wrs ds2, false, -1⟩ : Dk).boot kl = ⟨L2, [], false, -1⟩ ∧ Secs L2 ∧ L2.length = 4 ∧ L2 = standL (wrs ds2) (fun k => kl.getD k false) 0 LL := by
            obtain ⟨x1, x2⟩ := standL_secs (wrs ds2) (fun k => kl.getD k false) 0 LL hgd.secs hgd.waits
            exact ⟨_, rfl, x1, x2.trans HL4.out, rfl⟩
          rw [hL2] at h14
          obtain ⟨hd14, k14⟩ := DkIn.to (G := fun x => w.heap.size ≤ x ∧ x ≠ g) h14 (fun x hx => (hF4 x hx).1) (fun x hx => ⟨by omega, by omega⟩)
          have hw14 := HW13.out.keep k14 fun q hq hf => by cases hq; exact hf.2 rfl
          have kw14 : Keep (fun x => w.heap.size ≤ x) w w14 := KW13.out.trans (k14.mono fun x _ hx => hx.1)
          have sz14 := k14.size
          have HD14 := Lib.hid hd14; have HW14 := Lib.hid hw14; have KW14 := Lib.hid kw14; have HS2 := Lib.hid hS2; have HL24 := Lib.hid hL24; have HST := Lib.hid hst
          clear h14 hL2 hS2 hL24 hst hd14 hw14 kw14 k14 hF4 hgd HD4 HK13 HW13 KW13 hko
          go_wp2_with fail
          obtain ⟨F5, hd5, hF5⟩ := HD14.out
          refine (disk_Bytes w14 p _ F5 hd5).mono ?_
          rintro e w15 ⟨v15, rfl, o15, b15⟩
          have hfl2 : L2.flatten.length = 2048 := by rw [secs_len HS2.out, HL24.out]
          obtain ⟨a15, c15, rfl, _, hB15⟩ := bsOf o15 hfl2
          have hd15 := DkRep.below hd5 b15
          have hw15 := HW14.out.below b15
          have kw15 : Keep (fun x => w.heap.size ≤ x) w w15 := KW14.out.trans (Keep.of_below b15)
          have HD15 := Lib.hid hd15; have HW15 := Lib.hid hw15; have KW15 := Lib.hid kw15; have HB15 := Lib.hid hB15
          clear o15 b15 hd5 hF5 hB15 hd15 hw15 kw15 HD14 HW14 KW14
          go_wp2_with fail
          refine (disk_Waiting w15 p _ F5 HD15.out).mono ?_
          rintro e w' ⟨he, rfl⟩
          have he : e = .returned (.int .i64 0) := he
          subst he
          clear HD15
          go_wp2
          go_loopw [15] (fun v wr => ∃ s : Nat, s ≤ 4 ∧ v = .int .i64 s ∧ Below w15.heap.size w15 wr) (fun v _ => 4 - (intOf v).toNat)
          case atStart => exact ⟨0, by omega, rfl, .refl _ _⟩
          case round =>
            obtain ⟨s, hs4, rfl, hb⟩ := hrel
            by_cases hs : s < 4
            · have hnow := HB15.out.below hb
              have hwas := HW15.out.below hb
              obtain ⟨X, hX⟩ : ∃ X, X = L2[s]'(by rw [HL24.out]; exact hs) := ⟨_, rfl⟩
              obtain ⟨Y, hY⟩ : ∃ Y, Y = LL[s]'(by rw [HL4.out]; exact hs) := ⟨_, rfl⟩
              have hst := stands_at ds2 kl LL L2 HL4.out HST.out s hs X Y (by rw [hX, List.getElem?_eq_getElem]) (by rw [hY, List.getElem?_eq_getElem])
              obtain ⟨q, hq⟩ : ∃ q, q = 512 * s := ⟨_, rfl⟩
              have pX := sec_piece HS2.out s (by rw [HL24.out]; exact hs) q hq
              have pY := sec_piece HSL.out s (by rw [HL4.out]; exact hs) q hq
              rw [← hX] at pX
              rw [← hY] at pY
              have hs5 : (Try.prog.info? 5).map (·.size) = some 1 := by kernel_rfl
              obtain ⟨x1, y1, e1, z1, _⟩ := piece Try.underlying31 hs5 hnow .i64 .i64 (q : Int) ((q : Int) + 512) q (q + 512) rfl (by simp) (by omega) (by omega)
              obtain ⟨x2, y2, e2, z2, _⟩ := piece Try.underlying31 hs5 hwas .i64 .i64 (q : Int) ((q : Int) + 512) q (q + 512) rfl (by simp) (by omega) (by omega)
              rw [show q + 512 - q = 512 by omega] at e1 z1 e2 z2
              rw [pX] at z1
              rw [pY] at z2
              have hs1 := run_s wr z1
              have hs2 := run_s wr z2
              have hm1 : IntKind.i64.wrap (512 * (s : Int)) = (q : Int) := by rw [show 512 * (s : Int) = (q : Int) by omega]; exact IntWalk.i64_in _ (by omega)
              have hm2 : IntKind.i64.wrap ((q : Int) + 512) = (q : Int) + 512 := IntWalk.i64_in _ (by omega)
              have HB := Lib.hid hb; have HX := Lib.hid hX
              clear hb hX hY pX pY z1 z2 hnow hwas hq
              have hsd : decide ((s : Int) < 4) = true := by rw [decide_eq_true_iff]; omega
              go_wp2
              try simp only [hsd]
              go_loopw [17, 18] (fun b v wr2 => ∃ (k : Nat) (x : Bool), k ≤ ds2.length ∧ v = .int .i64 k ∧ b = .bool x ∧ (x = true ∨ ∃ (j : Nat) (d : De4), k ≤ j ∧ ds2[j]? = some d ∧ d.i % 4 = s ∧ j < kl.length ∧ X = secOf d.x) ∧ Below w15.heap.size w15 wr2) (fun _ v _ => ds2.length - (intOf v).toNat)
              case atStart =>
                refine ⟨0, _, Nat.zero_le _, rfl, rfl, ?_, HB.out⟩
                rcases hst with h | ⟨j, d, h⟩
                · exact .inl (by rw [h]; simp)
                · exact .inr ⟨j, d, Nat.zero_le _, h⟩
              case round =>
                obtain ⟨k, x, hk, rfl, rfl, hx, hb2⟩ := hrel
                clear hst e1 e2 hs1 hs2 hm1 hm2
                by_cases hlt : k < ds2.length
                · obtain ⟨bb, oo, rfl, hc⟩ := sl_at S2.out de4_len (by decide) k hlt
                  have hx1 := hc 1 _ rfl
                  have hbb := World.block_lt_of_cell? w _ hx1
                  simp only at hbb
                  have hx3 := hc 3 _ rfl
                  have hok := OK2.out ds2[k] (List.getElem_mem hlt)
                  have hi := hok.i
                  have hj : x = true ∨ ((ds2[k].i % 4 = s ∧ k < kl.length ∧ X = secOf ds2[k].x) ∨ ∃ (j : Nat) (d : De4), k + 1 ≤ j ∧ ds2[j]? = some d ∧ d.i % 4 = s ∧ j < kl.length ∧ X = secOf d.x) := by
                    rcases hx with h | ⟨j, d, h0, h1, h2⟩
                    · exact .inl h
                    · rcases Nat.lt_or_eq_of_le h0 with h | h
                      · exact .inr (.inr ⟨j, d, h, h1, h2⟩)
                      · subst h
                        rw [List.getElem?_eq_getElem hlt] at h1
                        cases h1
                        exact .inr (.inl h2)
                  generalize ds2[k].i = di at *
                  generalize ds2[k].x = dx at *
                  have hk2 : Keep (fun x => w.heap.size ≤ x) w wr := KW15.out.trans (Keep.of_below hb2)
                  have hc1 : wr.cell? ⟨bb, oo + k * 6 + 1, none⟩ = some (.int .i64 di) := keep_cell hk2 hx1
                  have HC3 := Lib.hid hx3; have HJ := Lib.hid hj; have HB2 := Lib.hid hb2; have HK2 := Lib.hid hk2
                  clear hx1 hx3 hc hok hx hj hb2 hk2
                  cases x with
                  | true =>
                    go_wp2
                    exact ⟨⟨k + 1, true, by omega, by go_num, rfl, .inl rfl, HB2.out⟩, by simp [intOf]; omega⟩
                  | false =>
                    go_wp2_with fail
                    refine (law_Pick _ di 4 hi.1 hi.2 (by decide) (by decide)).mono ?_
                    rintro e w' ⟨rfl, rfl⟩
                    have hc3 : wr.cell? ⟨bb, oo + k * 6 + 3, none⟩ = some (.int .u8 (dx.toNat : Nat)) := keep_cell HK2.out HC3.out
                    by_cases hp : di % 4 = s
                    · have hq4 : (di % 4 == (s : Int)) = true := by rw [beq_iff_eq]; exact hp
                      by_cases hkk : k < kl.length
                      · have hkb : decide ((k : Int) < (kl.length : Int)) = true := by rw [decide_eq_true_iff]; omega
                        go_wp2_with fail
                        refine (law_Sector _ dx).mono ?_
                        rintro e w5 ⟨v5, rfl, o5, b5⟩
                        obtain ⟨a5, c5, rfl, _, hB5⟩ := bsOf o5 (secOf_len dx)
                        have hsx := run_s w5 hB5
                        have HB5 := Lib.hid (HB2.out.trans (b5.mono HB2.out.size))
                        clear o5 b5 hB5
                        go_wp2
                        refine ⟨⟨k + 1, _, by omega, by go_num, rfl, ?_, HB5.out⟩, by simp [intOf]; omega⟩
                        rcases HJ.out with h | h | h
                        · cases h
                        · exact .inl (by rw [h.2.2]; simp)
                        · exact .inr h
                      · have hkb : decide ((k : Int) < (kl.length : Int)) = false := by rw [decide_eq_false_iff_not]; omega
                        go_wp2
                        refine ⟨⟨k + 1, _, by omega, by go_num, rfl, ?_, HB2.out⟩, by simp [intOf]; omega⟩
                        rcases HJ.out with h | h | h
                        · cases h
                        · exact absurd h.2.1 hkk
                        · exact .inr h
                    · have hq4 : (di % 4 == (s : Int)) = false := by rw [beq_eq_false_iff_ne]; exact hp
                      go_wp2
                      refine ⟨⟨k + 1, _, by omega, by go_num, rfl, ?_, HB2.out⟩, by simp [intOf]; omega⟩
                      rcases HJ.out with h | h | h
                      · cases h
                      · exact absurd h.1 hp
                      · exact .inr h
                · have hxt : x = true := by
                    rcases hx with h | ⟨j, d, h0, h1, h2⟩
                    · exact h
                    · rw [List.getElem?_eq_none (by omega)] at h1; cases h1
                  subst hxt
                  have HB2 := Lib.hid hb2
                  clear hb2 hx
                  go_wp2
                  exact ⟨⟨s + 1, by omega, by go_num, HB2.out⟩, by simp [intOf]; omega⟩
            · go_wp2
              go_ret
              exact ⟨rfl, (KW15.out.below (Nat.le_refl _) fun x hx hf => by omega).trans (hb.mono KW15.out.size)⟩
end Go.Proofs.Ytjijniillehfoaa
