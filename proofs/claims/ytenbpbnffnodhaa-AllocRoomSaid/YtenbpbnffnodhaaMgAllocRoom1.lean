/- Texts of the proof of 'AllocRoom', part 1: words on memory, contracts of functions, plain laws. No condition. -/
import Derived.Test.YtenbpbnffnodhaaMgAllocPlays1
import Derived.Test.YtenbpbnffnodhaaMgAllocPlays2
import Derived.Test.YtenbpbnffnodhaaMgAllocPlays3
import Derived.Test.YtenbpbnffnodhaaMgAllocPlays4
import Derived.Test.YtenbpbnffnodhaaMgAllocPlays5
import Derived.Test.YtenbpbnffnodhaaMgAllocPlays6
import Derived.Test.YtenbpbnffnodhaaMgAllocPlays7
import Derived.Test.YtenbpbnffnodhaaMgAllocPlays8
import Derived.Test.YtenbpbnffnodhaaMgAllocPlays9
import Derived.Test.YtenbpbnffnodhaaMgAllocPlays10
import Derived.Test.YtenbpbnffnodhaaMgAllocPlays11
import Derived.Test.YtenbpbnffnodhaaMgAllocPlays12
import Derived.Test.YtenbpbnffnodhaaMgAllocPlays13
import Derived.Test.YtenbpbnffnodhaaMgAllocPlays14
import Derived.Test.YtenbpbnffnodhaaMgAllocPlays15
import Derived.Test.YtenbpbnffnodhaaMgAllocPlays16
import Derived.Test.YtenbpbnffnodhaaMgAllocPlays17
import Derived.Test.YtenbpbnffnodhaaMgAllocPlays18
import Derived.Test.YtenbpbnffnodhaaMgAllocPlays19
import Derived.Test.YtenbpbnffnodhaaMgAllocPlays20
import Derived.Test.YtenbpbnffnodhaaMgAllocPlays21
import Derived.Test.YtenbpbnffnodhaaMgAllocPlays22
import Derived.Test.YtenbpbnffnodhaaMgAllocPlays23
set_option linter.unusedSimpArgs false
set_option linter.unusedVariables false
/- Layer 10: behind Rebuild the lists have just the free blocks; what Find tells. -/
namespace Go.Own
/-- Is there a free block with so many bytes? -/
def roomB (S : Nat) (L : List Blk) : Bool := L.any fun x => !x.used && decide (S ≤ x.size)
def foundB (S o : Nat) (L : List Blk) : Bool := decide (o = 0) || L.any fun x => decide (x.off = o) && (!x.used && decide (S ≤ x.size))
theorem roomB_snoc (S : Nat) (L : List Blk) (x : Blk) : roomB S (L ++ [x]) = (roomB S L || (!x.used && decide (S ≤ x.size))) := by unfold roomB; rw [List.any_append]; simp
theorem find_room {b : List UInt8} {bs : List Blk} {ls : Nat → List Nat} (h : Right b bs ls) {S : Nat} (hs : isSize S = true) :
    foundB S ((findL bs ls S).getD 0) bs = true ∧ decide ((findL bs ls S).getD 0 ≠ 0) = roomB S bs := by
  cases hq : findL bs ls S with
  | none =>
    refine ⟨by unfold foundB; simp, ?_⟩
    have : roomB S bs = false := by
      unfold roomB
      rw [List.any_eq_false]
      intro x hx
      cases hu : x.used with
      | true => simp
      | false => have := findL_none h hs hq hx hu; simp; omega
    rw [this]; rfl
  | some o =>
    obtain ⟨x, hx, rfl, hu, hle, h0⟩ := findL_some h hs hq
    have h1 : roomB S bs = true := by unfold roomB; rw [List.any_eq_true]; exact ⟨x, hx, by simp [hu, hle]⟩
    refine ⟨?_, by rw [h1]; simpa using h0⟩
    unfold foundB
    have : (bs.any fun y => decide (y.off = (some x.off).getD 0) && (!y.used && decide (S ≤ y.size))) = true := by rw [List.any_eq_true]; exact ⟨x, hx, by simp [hu, hle]⟩
    rw [this]; simp
end Go.Own
namespace Go.Proofs.Ytenbpbnffnodhaa
open Go Go.RowKit Go.Own
set_option linter.unusedVariables false
set_option maxRecDepth 100000
end Go.Proofs.Ytenbpbnffnodhaa

/- What stays true of a heap's blocks, whatever is done; when there is room. No program. -/
namespace Go.Proofs.Ytenbpbnffnodhaa
open Go Go.RowKit Go.Own
set_option linter.unusedVariables false
set_option maxRecDepth 100000
/-! ### When there is room -/
def endU (L : List Blk) : Nat := L.foldl (fun e x => if x.used then x.off + x.size else e) 184
theorem endU_snoc (L : List Blk) (x : Blk) : endU (L ++ [x]) = if x.used then x.off + x.size else endU L := by unfold endU; rw [List.foldl_append]; rfl
theorem tile_end {b : List UInt8} {e : Nat} {L : List Blk} {x : Blk} (h : TileTo b e 184 (L ++ [x])) : x.off + x.size = e ∧ endOf 184 (L ++ [x]) = e ∧ TileTo b x.off 184 L := by
  obtain ⟨m, h1, h2⟩ := TileTo.append.1 h
  have h3 := blkAt_some h2.1
  have h4 : m + x.size = e := h2.2
  have h5 : x.off = m := h3.1
  exact ⟨by omega, tile_endOf h, by rw [h5]; exact h1⟩
theorem endU_tile {b : List UInt8} {e : Nat} {L : List Blk} (h : TileTo b e 184 L) (hu : ∀ y, L.getLast? = some y → y.used = true) : endU L = e := by
  rcases List.eq_nil_or_concat L with rfl | ⟨p, y, rfl⟩
  · exact h
  · rw [List.concat_eq_append] at *
    rw [endU_snoc, hu y List.getLast?_concat]
    exact (tile_end h).1
theorem cutM_new {pre post : List Bd} {o s n : Nat} {d : Value} {ls : Ls} (hns : n ≤ s) : ∃ t, n ≤ t ∧ t < n + 32 ∧ t ≤ s ∧ (⟨o, t, true⟩ : Blk) ∈ bsOf (cutM pre o s d post n ls).1 := by
  unfold cutM
  split
  · exact ⟨s, hns, by omega, Nat.le_refl _, by rw [bsOf_append, bsOf_cons]; simp⟩
  · refine ⟨n, Nat.le_refl _, by omega, hns, ?_⟩
    unfold freeM joinP
    simp only [List.getLast?_concat, if_true]
    rw [bsOf_append, bsOf_append]
    exact List.mem_append_left _ (List.mem_append_right _ (List.mem_singleton.2 rfl))
theorem take_room {b : List UInt8} {m : List Bd} {ls : Ls} (h : Right b (bsOf m) ls) (hf : Fine m) {cap n : Nat} (hn : isSize (n : Int) = true) :
    (takeM m cap n ls).isSome = true ↔ roomB n (bsOf m) = true ∨ endU (bsOf m) + n ≤ cap := by
  have hT := h.tile
  have hE : endOf 184 (bsOf m) = b.length := h.endOf
  have hroom := (find_room h hn).2
  cases hq : findL (bsOf m) ls n with
  | some a =>
    obtain ⟨j, X, hj, ho, hu, hX, hm, htk⟩ := take_found h hn hq
    rw [htk cap]
    have hr : roomB n (bsOf m) = true := by unfold roomB; rw [List.any_eq_true]; exact ⟨X.b, hm, by simp [hu, hX]⟩
    simp [hr]
  | none =>
    rw [hq] at hroom
    have hr : roomB n (bsOf m) = false := by rw [← hroom]; rfl
    have ht : takeM m cap n ls = takeTail m cap n ls := by unfold takeM; rw [hq]
    rw [ht, hr]
    simp only [Bool.false_eq_true, false_or]
    unfold takeTail
    cases hl : m.getLast? with
    | none =>
      obtain rfl : m = [] := by simpa using hl
      simp only
      unfold tailM
      show (if 184 + n ≤ cap then _ else _ : Option (Nat × List Bd × Ls)).isSome = true ↔ 184 + n ≤ cap
      by_cases hq : 184 + n ≤ cap
      · rw [if_pos hq]; exact ⟨fun _ => hq, fun _ => rfl⟩
      · rw [if_neg hq]; exact ⟨fun h => (by cases h), fun h => absurd h hq⟩
    | some x =>
      have hsp := getLast_split hl
      simp only
      cases hu : x.b.used with
      | true =>
        rw [if_pos rfl]
        have he : endU (bsOf m) = b.length := endU_tile hT (fun y hy => by rw [bsOf_getLast, hl] at hy; cases hy; exact hu)
        rw [he, ← hE]
        unfold tailM
        by_cases hq : endOf 184 (bsOf m) + n ≤ cap
        · rw [if_pos hq]; exact ⟨fun _ => hq, fun _ => rfl⟩
        · rw [if_neg hq]; exact ⟨fun h => (by cases h), fun h => absurd h hq⟩
      | false =>
        rw [if_neg (by decide)]
        have ht2 := hT
        rw [hsp, bsOf_append] at ht2
        obtain ⟨e1, e2, e3⟩ := tile_end (x := x.b) ht2
        have ha := hf.1
        rw [hsp, bsOf_append] at ha
        have hu2 : endU (bsOf m.dropLast) = x.b.off := endU_tile e3 (fun y hy => by
          rcases (Apart.snoc.1 ha).2 y hy with h9 | h9
          · exact h9
          · have h9 : x.b.used = true := h9
            rw [hu] at h9; cases h9)
        have hu3 : endU (bsOf m) = x.b.off := by
          have := endU_snoc (bsOf m.dropLast) x.b
          rw [hu, if_neg (by decide), hu2] at this
          rw [← this]
          conv => lhs; rw [hsp, bsOf_append]
          rfl
        rw [hu3, hE]
        by_cases hq : b.length + n ≤ cap + x.b.size
        · rw [if_pos hq]; exact ⟨fun _ => by omega, fun _ => rfl⟩
        · rw [if_neg hq]; exact ⟨fun h => (by cases h), fun h => absurd h (by omega)⟩
theorem take_new {b : List UInt8} {m m' : List Bd} {ls ls' : Ls} (h : Right b (bsOf m) ls) {cap n o : Nat} (hn : isSize (n : Int) = true) (ht : takeM m cap n ls = some (o, m', ls')) :
    ∃ s, n ≤ s ∧ s < n + 32 ∧ (⟨o, s, true⟩ : Blk) ∈ bsOf m' ∧ ∀ y ∈ bsOf m, y.used = true → y.off + y.size ≤ o ∨ o + s ≤ y.off := by
  have hT := h.tile
  have hE : endOf 184 (bsOf m) = b.length := h.endOf
  have tl : tailM m cap n ls = some (o, m', ls') → ∃ s, n ≤ s ∧ s < n + 32 ∧ (⟨o, s, true⟩ : Blk) ∈ bsOf m' ∧ ∀ y ∈ bsOf m, y.used = true → y.off + y.size ≤ o ∨ o + s ≤ y.off := fun h1 => by
    unfold tailM at h1
    split at h1
    · cases h1
      refine ⟨n, Nat.le_refl _, by omega, by rw [bsOf_append]; exact List.mem_append_right _ (List.mem_singleton.2 rfl), fun y hy _ => .inl ?_⟩
      rw [hE]; exact (hT.mem hy).2.2
    · cases h1
  cases hq : findL (bsOf m) ls n with
  | some a =>
    obtain ⟨j, X, hj, ho, hu, hX, hm, htk⟩ := take_found h hn hq
    rw [htk cap] at ht
    simp only [Option.some.injEq, Prod.mk.injEq] at ht
    obtain ⟨rfl, h2⟩ := ht
    obtain ⟨t, g1, g2, g3, g4⟩ := cutM_new (pre := m.take j) (post := m.drop (j + 1)) (o := a) (d := X.d) (ls := outL ls (clsN X.b.size) a) hX
    rw [h2] at g4
    refine ⟨t, g1, g2, g4, fun y hy hyu => ?_⟩
    rcases hT.apart hm hy with h5 | h5 | h5
    · rw [← h5, hu] at hyu; cases hyu
    · right; omega
    · left; omega
  | none =>
    have ht2 : takeM m cap n ls = takeTail m cap n ls := by unfold takeM; rw [hq]
    rw [ht2] at ht
    unfold takeTail at ht
    cases hl : m.getLast? with
    | none => rw [hl] at ht; exact tl ht
    | some x =>
      rw [hl] at ht
      simp only at ht
      split at ht
      · exact tl ht
      · rename_i hu
        split at ht
        · cases ht
          refine ⟨n, Nat.le_refl _, by omega, by rw [bsOf_append]; exact List.mem_append_right _ (List.mem_singleton.2 rfl), fun y hy hyu => .inl ?_⟩
          have hsp := getLast_split hl
          have ht3 := hT
          rw [hsp, bsOf_append] at ht3
          obtain ⟨e1, e2, e3⟩ := tile_end (x := x.b) ht3
          rw [hsp, bsOf_append] at hy
          rcases List.mem_append.1 hy with h7 | h7
          · exact (e3.mem h7).2.2
          · have h8 : y = x.b := by simpa [bsOf] using h7
            rw [h8] at hyu
            exact absurd hyu hu
        · cases ht
end Go.Proofs.Ytenbpbnffnodhaa

/- Layer 12: whether there is room, without the document's answer. -/
namespace Go.Proofs.Ytenbpbnffnodhaa
open Go Go.RowKit Go.Own
set_option linter.unusedVariables false
set_option maxRecDepth 100000
theorem endU_le {b : List UInt8} {e : Nat} {L : List Blk} (h : TileTo b e 184 L) (k : Nat) : endU (L.take k) ≤ e := by
  induction k with
  | zero => rw [List.take_zero]; exact h.le
  | succ k ih =>
    by_cases hk : k < L.length
    · rw [List.take_succ_eq_append_getElem hk, endU_snoc]
      split
      · exact (h.mem (List.getElem_mem hk)).2.2
      · exact ih
    · rw [List.take_of_length_le (by omega)] at ih ⊢; exact ih
set_option maxHeartbeats 16000000 in
theorem allocRoom (w : World) (cap : Int) (la : Option Addr) (ln lc : Nat) (n : Int) (hc : (Lit.int .i64 cap).wf = true) (hl : Rd w (.sl shDd) [.slice la ln lc]) (hn : (Lit.int .i64 n).wf = true) :
    Calls Try.prog 21 #[.int .i64 cap, .slice la ln lc, .int .i64 n] w (lawOk w) := by
  obtain ⟨c0, c1⟩ := wfI64 hc
  obtain ⟨n0, n1⟩ := wfI64 hn
  obtain ⟨ds, s1, hn1, ok1⟩ := rd_dds hl
  subst hn1
  have p1 := s1.cap; have r1 := s1.room
  have KPK := Lib.hid (fun w => law_Pick w n 900 n0 n1 (by decide) (by decide))
  have k0 : 0 ≤ n % 900 := Int.emod_nonneg _ (by decide)
  have k1 : n % 900 < 900 := Int.emod_lt_of_pos _ (by decide)
  obtain ⟨r, hr⟩ := Int.eq_ofNat_of_zero_le k0
  rw [hr] at KPK k1
  obtain ⟨S, hS⟩ : ∃ S : Nat, S = 32 + 16 * r := ⟨_, rfl⟩
  have hsz : isSize (S : Int) = true := isSize_yes (by omega)
  have u1 : IntKind.i64.wrap (16 * (r : Int)) = 16 * (r : Int) := IntWalk.i64_in _ (by omega)
  have u2 : IntKind.i64.wrap (32 + 16 * (r : Int)) = (S : Int) := by rw [IntWalk.i64_in _ (by omega)]; omega
  have hSle : S ≤ 14416 ∧ 32 ≤ S := by omega
  have S1 := Lib.hid s1; have OK := Lib.hid ok1; have HSZ := Lib.hid hsz; have HSLE := Lib.hid hSle
  clear hc hl hn s1 ok1 n0 n1 k0 k1 hr hS hsz hSle
  go_enter Try.func21, Try.ntmps21
  go_wp2_with fail
  refine (up12 w).mono ?_
  rintro e w1 ⟨rfl, bw1⟩
  have TX := Lib.hid ((St.start w).below bw1)
  clear bw1
  have hz : (List.replicate 184 (0 : UInt8)).length = 184 := List.length_replicate ..
  have hR := right0
  obtain ⟨g, W, hmk, t2⟩ := mk_st TX.out (184 : Int) 184 rfl (by decide)
  have TY := Lib.hid t2
  clear t2
  by_cases hmay : 1024 ≤ cap ∧ cap ≤ 16384
  · obtain ⟨cn, rfl⟩ := Int.eq_ofNat_of_zero_le (show 0 ≤ cap by omega)
    have e1 : decide ((cn : Int) ≥ 1024) = true := decide_eq_true (by omega)
    have e2 : decide ((cn : Int) ≤ 16384) = true := decide_eq_true (by omega)
    have HMAY := Lib.hid (show 1024 ≤ cn ∧ cn ≤ 16384 by omega)
    clear hmay c0 c1
    go_wp2_with fail
    with_reducible refine (ar_Arena TY.out 0 0 rfl cn cn rfl (by decide) (by decide) HMAY.out.1 HMAY.out.2 (some ⟨g, 0, none⟩) 184 184 (List.replicate 184 0) (TY.out.bsV (i := 0) rfl) (by rw [hz]; have := HMAY.out; omega)).mono ?_
    rintro e w2 ⟨p, rfl, t3⟩
    have T3 := Lib.hid (show St w.heap.size w w2 [ArT p ⟨0, cn, List.replicate 184 0⟩] from t3.sub (List.Sublist.cons_cons _ (List.sublist_cons_self ..)))
    clear t3 TY hmk
    generalize List.replicate 184 (0 : UInt8) = z at *
    have HR := Lib.hid hR
    clear hR hz TX
    by_cases hbig : 100 < ds.length
    · have d1 : decide ((ds.length : Int) > 100) = true := decide_eq_true (by omega)
      have d2 : decide ((100 : Int) < (ds.length : Int)) = true := decide_eq_true (by omega)
      have d3 : decide (100 < ds.length) = true := decide_eq_true hbig
      have B3 := Lib.hid T3.out.end
      clear hbig
      go_wp2
      go_ret
      exact ⟨rfl, B3.out⟩
    have d1 : decide ((ds.length : Int) > 100) = false := decide_eq_false (by omega)
    have d2 : decide ((100 : Int) < (ds.length : Int)) = false := decide_eq_false (by omega)
    have d3 : decide (100 < ds.length) = false := decide_eq_false hbig
    clear hbig
    go_wp2_with fail
    have kc := rh_New T3.out (cn : Int)
    with_reducible refine kc.mono ?_
    clear kc
    rintro e w4 ⟨q, vl', ss', rfl, hs4, t4⟩
    have HS4 := Lib.hid hs4
    have T4 := Lib.hid t4
    clear hs4 t4
    go_wp2
    go_loopw [10] (fun v wr => ∃ (k : Nat) (m : List Bd) (ls : Ls) (b : List UInt8), k ≤ ds.length ∧ v = .int .i64 k ∧ AlS w.heap.size w wr q p 0 cn [] m ls b) (fun v _ => ds.length - (intOf v).toNat)
    case atStart => exact ⟨0, [], _, _, Nat.zero_le _, rfl, _, _, _, _, HS4.out, HR.out, fine_nil, T4.out⟩
    case round =>
      obtain ⟨k, m, ls, b, hk, rfl, hA⟩ := hrel
      clear T4 T3 HS4 d1 d2 d3
      by_cases hlt : k < ds.length
      · have d4 : decide ((k : Int) < (ds.length : Int)) = true := decide_eq_true (by omega)
        have hSt : ∃ l, St w.heap.size w wr l := by obtain ⟨_, _, _, _, _, _, _, h⟩ := hA; exact ⟨_, h⟩
        obtain ⟨_, hS⟩ := hSt
        obtain ⟨bb, bo, rfl, hr⟩ := sl_at (hS.argSl S1.out) (fun d => rfl) (by decide) k hlt
        have hd := OK.out ds[k] (List.getElem_mem hlt)
        generalize ds[k] = d at *
        have HRG := Lib.hid hr; have HD := Lib.hid hd; have HA := Lib.hid hA
        clear hr hS hd hA
        go_wp2_with (refine dd_mid rfl _ rfl bb (bo + k * 4) rfl d HRG.out ?_)
        go_wp2_with fail
        have kc := law12_Do HA.out d.what d.n d.m d.raw HD.out.what HD.out.n HD.out.m
        with_reducible refine kc.mono ?_
        clear kc
        rintro e w5 ⟨rfl, m5', ls5', b5', ha5⟩
        have HA5 := Lib.hid ha5
        clear ha5
        go_wp2
        exact ⟨⟨k + 1, _, _, _, hlt, by go_num, HA5.out⟩, by simp [intOf]; omega⟩
      · obtain rfl : k = ds.length := by omega
        have d4 : decide ((ds.length : Int) < (ds.length : Int)) = false := decide_eq_false (by omega)
        obtain ⟨_, _, _, _, _, hRt, hFn, hSt⟩ := hA
        have hmc := right_count' hRt
        have hWk := hRt.walk
        have kw := blk_Walk hSt (i := 4) rfl
        have hRm := take_room (cap := cn) (n := S) hRt hFn HSZ.out
        have hti := hRt.tile
        have hmx := hRt.max
        obtain ⟨L, hL⟩ : ∃ L, L = bsOf m := ⟨_, rfl⟩
        have hLl : L.length ≤ 600 := by rw [hL]; unfold bsOf; rw [List.length_map]; exact hmc
        have KW := Lib.hid kw; have HRT := Lib.hid hRt; have HFN := Lib.hid hFn; have HWK := Lib.hid hWk; have HRM := Lib.hid hRm; have HL := Lib.hid hL; have HTI := Lib.hid hti; have HMX := Lib.hid hmx; have HLL := Lib.hid hLl
        clear kw hRt hFn hWk hRm hSt hmc hL hti hmx hLl
        go_wp2_with fail
        have kc := KPK.out wr
        with_reducible refine kc.mono ?_
        clear kc
        rintro e w' ⟨rfl, rfl⟩
        go_wp2_with fail
        have kc := KW.out
        rw [HWK.out, show errW (some (bsOf m)) = .nilIface from rfl, Option.getD_some] at kc
        with_reducible refine kc.mono ?_
        clear kc
        rintro e w6 ⟨v6', rfl, t6⟩
        have T6 := Lib.hid t6
        clear t6
        have T7 := Lib.hid (show St w.heap.size w w6 [BlsO v6' L, ArT p ⟨0, cn, b⟩] from by rw [HL.out]; exact T6.out.sub (.cons_cons _ (.cons _ (.cons _ (.cons _ (.cons _ (.cons_cons _ .slnil))))))) 
        clear T6 KW
        obtain ⟨a7, c7, e7, hs7⟩ := bls_slice T7.out (i := 0) rfl
        subst e7
        have q1 := Sl.cap hs7; have q2 := Sl.room hs7
        have HS7 := Lib.hid hs7
        clear hs7
        go_wp2
        go_loopw [14, 15, 16] (fun vr ve vi wr2 => ∃ k : Nat, k ≤ L.length ∧ vi = .int .i64 k ∧ vr = .bool (roomB S (L.take k)) ∧ ve = .int .i64 (endU (L.take k) : Nat) ∧ St w.heap.size w wr2 [BlsO (.slice a7 L.length c7) L, ArT p ⟨0, cn, b⟩]) (fun _ _ vi _ => L.length - (intOf vi).toNat)
        case atStart => exact ⟨0, Nat.zero_le _, rfl, rfl, rfl, T7.out⟩
        case round =>
          obtain ⟨k, hk, rfl, rfl, rfl, hS⟩ := hrel
          clear T7
          have hen := endU_le HTI.out k
          rw [← HL.out] at hen
          have hmx := HMX.out
          by_cases hlt : k < L.length
          · obtain ⟨bb, bo, e9, hr⟩ := bl_at (bls_sl hS (i := 0) rfl).2 k hlt
            subst e9
            have hxm := HTI.out.mem (x := L[k]) (by rw [← HL.out]; exact List.getElem_mem hlt)
            have hrs : roomB S (L.take (k + 1)) = (roomB S (L.take k) || (!(L[k]).used && decide (S ≤ (L[k]).size))) := by rw [List.take_succ_eq_append_getElem hlt, roomB_snoc]
            have hes : endU (L.take (k + 1)) = if (L[k]).used then (L[k]).off + (L[k]).size else endU (L.take k) := by rw [List.take_succ_eq_append_getElem hlt, endU_snoc]
            have d4 : decide ((k : Int) < (L.length : Int)) = true := decide_eq_true (by omega)
            generalize L[k] = x at *
            obtain ⟨x0, x1, x2⟩ := bl_cells hr
            have u5 : IntKind.i64.wrap ((x.off : Int) + (x.size : Int)) = ((x.off + x.size : Nat) : Int) := by rw [IntWalk.i64_in _ (by omega)]; omega
            have kd := (Keep.refl (fun _ => False) wr).drew
            have X0 := Lib.hid (mid_keep kd x0 (fun h => h)); have X1 := Lib.hid (mid_keep kd x1 (fun h => h))
            have TS := Lib.hid hS.drew; have TN := Lib.hid hS; have HRS := Lib.hid hrs; have HES := Lib.hid hes
            clear hr hxm hrs hes kd hS hen hmx x0
            generalize roomB S (L.take k) = rm at *
            generalize endU (L.take k) = en at *
            cases hu : x.used with
            | true =>
              rw [hu] at x2
              have HR1 := Lib.hid (show roomB S (L.take (k + 1)) = rm by rw [HRS.out, hu]; simp)
              have HE1 := Lib.hid (show endU (L.take (k + 1)) = x.off + x.size by rw [HES.out, hu]; rfl)
              clear hu
              cases rm with
              | true =>
                go_wp2
                refine flowe_begin (F := fun _ => False) hmixed 12 rfl (by repeat (first | with_reducible refine ps_then ?_ | with_reducible refine ps_block ?_ | with_reducible exact ps_body | refine ps_then ?_ | refine ps_block ?_ | exact ps_body)) (fun hps => ?_)
                simp only [List.replicate]
                have kk := (Keep.refl (fun _ => False) (wr)).drew
                refine flowe_take 0 (v := ?_) (a' := ?_) hps rfl (by kernel_rfl) rfl ?_ ?_ ?_
                rotate_left 2
                · intro w' hk; go_simp; try rfl
                · simp only [Act.put, List.setIfInBounds_toArray, List.set_cons_succ, List.set_cons_zero]; try rfl
                refine flowe_take 1 (v := ?_) (a' := ?_) hps rfl (by kernel_rfl) rfl ?_ ?_ ?_
                rotate_left 2
                · intro w' hk; go_simp; try rfl
                · simp only [Act.put, List.setIfInBounds_toArray, List.set_cons_succ, List.set_cons_zero]; try rfl
                refine flowe_take 2 (v := ?_) (a' := ?_) hps rfl (by kernel_rfl) rfl ?_ ?_ ?_
                rotate_left 2
                · intro w' hk; go_simp; try rfl
                · simp only [Act.put, List.setIfInBounds_toArray, List.set_cons_succ, List.set_cons_zero]; try rfl
                refine flowe_take 3 (v := ?_) (a' := ?_) hps rfl (by kernel_rfl) rfl ?_ ?_ ?_
                rotate_left 2
                · intro w' hk; go_simp; try rfl
                · simp only [Act.put, List.setIfInBounds_toArray, List.set_cons_succ, List.set_cons_zero]; try rfl
                refine flowe_take 4 (v := ?_) (a' := ?_) hps rfl (by kernel_rfl) rfl ?_ ?_ ?_
                rotate_left 2
                · intro w' hk; have c0 := mid_keep hk X0.out (fun h => h); go_simp; try rfl
                · simp only [Act.put, List.setIfInBounds_toArray, List.set_cons_succ, List.set_cons_zero]; try rfl
                refine flowe_take 5 (v := ?_) (a' := ?_) hps rfl (by kernel_rfl) rfl ?_ ?_ ?_
                rotate_left 2
                · intro w' hk; go_simp; try rfl
                · simp only [Act.put, List.setIfInBounds_toArray, List.set_cons_succ, List.set_cons_zero]; try rfl
                refine flowe_take 6 (v := ?_) (a' := ?_) hps rfl (by kernel_rfl) rfl ?_ ?_ ?_
                rotate_left 2
                · intro w' hk; go_simp; try rfl
                · simp only [Act.put, List.setIfInBounds_toArray, List.set_cons_succ, List.set_cons_zero]; try rfl
                refine flowe_take 7 (v := ?_) (a' := ?_) hps rfl (by kernel_rfl) rfl ?_ ?_ ?_
                rotate_left 2
                · intro w' hk; go_simp; try rfl
                · simp only [Act.put, List.setIfInBounds_toArray, List.set_cons_succ, List.set_cons_zero]; try rfl
                refine flowe_take 8 (v := ?_) (a' := ?_) hps rfl (by kernel_rfl) rfl ?_ ?_ ?_
                rotate_left 2
                · intro w' hk; go_simp; try rfl
                · simp only [Act.put, List.setIfInBounds_toArray, List.set_cons_succ, List.set_cons_zero]; try rfl
                refine flowe_take 9 (v := ?_) (a' := ?_) hps rfl (by kernel_rfl) rfl ?_ ?_ ?_
                rotate_left 2
                · intro w' hk; have c0 := mid_keep hk X1.out (fun h => h); go_simp; try rfl
                · simp only [Act.put, List.setIfInBounds_toArray, List.set_cons_succ, List.set_cons_zero]; try rfl
                refine flowe_take 10 (v := ?_) (a' := ?_) hps rfl (by kernel_rfl) rfl ?_ ?_ ?_
                rotate_left 2
                · intro w' hk; go_simp; try rfl
                · simp only [Act.put, List.setIfInBounds_toArray, List.set_cons_succ, List.set_cons_zero]; try rfl
                refine flowe_take 11 (v := ?_) (a' := ?_) hps rfl (by kernel_rfl) rfl ?_ ?_ ?_
                rotate_left 2
                · intro w' hk; go_simp; try rfl
                · simp only [Act.put, List.setIfInBounds_toArray, List.set_cons_succ, List.set_cons_zero]; try rfl
                refine flowe_done hps (by kernel_rfl) ?_
                clear kk
                go_wp2
                exact ⟨⟨k + 1, hlt, by go_num, by rw [HR1.out], by (rw [HE1.out]; first | done | rfl), TS.out⟩, by simp [intOf]; omega⟩
              | false =>
                go_wp2
                refine flowe_begin (F := fun _ => False) hmixed 12 rfl (by repeat (first | with_reducible refine ps_then ?_ | with_reducible refine ps_block ?_ | with_reducible exact ps_body | refine ps_then ?_ | refine ps_block ?_ | exact ps_body)) (fun hps => ?_)
                simp only [List.replicate]
                have kk := (Keep.refl (fun _ => False) (wr)).drew
                refine flowe_take 0 (v := ?_) (a' := ?_) hps rfl (by kernel_rfl) rfl ?_ ?_ ?_
                rotate_left 2
                · intro w' hk; go_simp; try rfl
                · simp only [Act.put, List.setIfInBounds_toArray, List.set_cons_succ, List.set_cons_zero]; try rfl
                refine flowe_take 1 (v := ?_) (a' := ?_) hps rfl (by kernel_rfl) rfl ?_ ?_ ?_
                rotate_left 2
                · intro w' hk; go_simp; try rfl
                · simp only [Act.put, List.setIfInBounds_toArray, List.set_cons_succ, List.set_cons_zero]; try rfl
                refine flowe_take 2 (v := ?_) (a' := ?_) hps rfl (by kernel_rfl) rfl ?_ ?_ ?_
                rotate_left 2
                · intro w' hk; go_simp; try rfl
                · simp only [Act.put, List.setIfInBounds_toArray, List.set_cons_succ, List.set_cons_zero]; try rfl
                refine flowe_take 3 (v := ?_) (a' := ?_) hps rfl (by kernel_rfl) rfl ?_ ?_ ?_
                rotate_left 2
                · intro w' hk; go_simp; try rfl
                · simp only [Act.put, List.setIfInBounds_toArray, List.set_cons_succ, List.set_cons_zero]; try rfl
                refine flowe_take 4 (v := ?_) (a' := ?_) hps rfl (by kernel_rfl) rfl ?_ ?_ ?_
                rotate_left 2
                · intro w' hk; have c0 := mid_keep hk X0.out (fun h => h); go_simp; try rfl
                · simp only [Act.put, List.setIfInBounds_toArray, List.set_cons_succ, List.set_cons_zero]; try rfl
                refine flowe_take 5 (v := ?_) (a' := ?_) hps rfl (by kernel_rfl) rfl ?_ ?_ ?_
                rotate_left 2
                · intro w' hk; go_simp; try rfl
                · simp only [Act.put, List.setIfInBounds_toArray, List.set_cons_succ, List.set_cons_zero]; try rfl
                refine flowe_take 6 (v := ?_) (a' := ?_) hps rfl (by kernel_rfl) rfl ?_ ?_ ?_
                rotate_left 2
                · intro w' hk; go_simp; try rfl
                · simp only [Act.put, List.setIfInBounds_toArray, List.set_cons_succ, List.set_cons_zero]; try rfl
                refine flowe_take 7 (v := ?_) (a' := ?_) hps rfl (by kernel_rfl) rfl ?_ ?_ ?_
                rotate_left 2
                · intro w' hk; go_simp; try rfl
                · simp only [Act.put, List.setIfInBounds_toArray, List.set_cons_succ, List.set_cons_zero]; try rfl
                refine flowe_take 8 (v := ?_) (a' := ?_) hps rfl (by kernel_rfl) rfl ?_ ?_ ?_
                rotate_left 2
                · intro w' hk; go_simp; try rfl
                · simp only [Act.put, List.setIfInBounds_toArray, List.set_cons_succ, List.set_cons_zero]; try rfl
                refine flowe_take 9 (v := ?_) (a' := ?_) hps rfl (by kernel_rfl) rfl ?_ ?_ ?_
                rotate_left 2
                · intro w' hk; have c0 := mid_keep hk X1.out (fun h => h); go_simp; try rfl
                · simp only [Act.put, List.setIfInBounds_toArray, List.set_cons_succ, List.set_cons_zero]; try rfl
                refine flowe_take 10 (v := ?_) (a' := ?_) hps rfl (by kernel_rfl) rfl ?_ ?_ ?_
                rotate_left 2
                · intro w' hk; go_simp; try rfl
                · simp only [Act.put, List.setIfInBounds_toArray, List.set_cons_succ, List.set_cons_zero]; try rfl
                refine flowe_take 11 (v := ?_) (a' := ?_) hps rfl (by kernel_rfl) rfl ?_ ?_ ?_
                rotate_left 2
                · intro w' hk; go_simp; try rfl
                · simp only [Act.put, List.setIfInBounds_toArray, List.set_cons_succ, List.set_cons_zero]; try rfl
                refine flowe_done hps (by kernel_rfl) ?_
                clear kk
                go_wp2
                exact ⟨⟨k + 1, hlt, by go_num, by rw [HR1.out], by (rw [HE1.out]; first | done | rfl), TS.out⟩, by simp [intOf]; omega⟩
            | false =>
              rw [hu] at x2
              have HE1 := Lib.hid (show endU (L.take (k + 1)) = en by rw [HES.out, hu]; rfl)
              by_cases hge : S ≤ x.size
              · have d5 : decide ((x.size : Int) ≥ (S : Int)) = true := decide_eq_true (by omega)
                have d6 : decide ((S : Int) ≤ (x.size : Int)) = true := decide_eq_true (by omega)
                have d7 : decide (S ≤ x.size) = true := decide_eq_true hge
                have HR1 := Lib.hid (show roomB S (L.take (k + 1)) = true by rw [HRS.out, hu, decide_eq_true hge]; simp)
                clear hu hge
                cases rm with
                | true =>
                  go_wp2
                  exact ⟨⟨k + 1, hlt, by go_num, by rw [HR1.out], by rw [HE1.out], TN.out⟩, by simp [intOf]; omega⟩
                | false =>
                  go_wp2
                  exact ⟨⟨k + 1, hlt, by go_num, by rw [HR1.out], by rw [HE1.out], TN.out⟩, by simp [intOf]; omega⟩
              · have d5 : decide ((x.size : Int) ≥ (S : Int)) = false := decide_eq_false (by omega)
                have d6 : decide ((S : Int) ≤ (x.size : Int)) = false := decide_eq_false (by omega)
                have d7 : decide (S ≤ x.size) = false := decide_eq_false hge
                have HR1 := Lib.hid (show roomB S (L.take (k + 1)) = rm by rw [HRS.out, hu, decide_eq_false hge]; simp)
                clear hu hge
                cases rm with
                | true =>
                  go_wp2
                  exact ⟨⟨k + 1, hlt, by go_num, by rw [HR1.out], by rw [HE1.out], TN.out⟩, by simp [intOf]; omega⟩
                | false =>
                  go_wp2
                  exact ⟨⟨k + 1, hlt, by go_num, by rw [HR1.out], by rw [HE1.out], TN.out⟩, by simp [intOf]; omega⟩
          · obtain rfl : k = L.length := by omega
            rw [List.take_length] at hen ⊢
            have d4 : decide ((L.length : Int) < (L.length : Int)) = false := decide_eq_false (by omega)
            have hrm := HRM.out
            rw [← HL.out] at hrm
            generalize endU L = en at *
            generalize roomB S L = rm at *
            have u5 : IntKind.i64.wrap ((cn : Int) - (en : Int)) = (cn : Int) - (en : Int) := IntWalk.i64_in _ (by have := HMAY.out; omega)
            have T8 := Lib.hid hS
            clear hS hmx hen
            have HIR := Lib.hid (show IsRight b from ⟨_, _, HRT.out, HFN.out.1⟩)
            cases htk : takeM m cn S ls with
            | none =>
              rw [htk] at hrm
              have hno : ¬ (rm = true ∨ en + S ≤ cn) := fun h => by have := hrm.2 h; simp at this
              obtain rfl : rm = false := by cases rm; rfl; exact absurd (.inl rfl) hno
              have d5 : decide ((cn : Int) - (en : Int) ≥ (S : Int)) = false := decide_eq_false (fun h => hno (.inr (by omega)))
              have d6 : decide ((S : Int) ≤ (cn : Int) - (en : Int)) = false := decide_eq_false (fun h => hno (.inr (by omega)))
              have HTK := Lib.hid htk
              clear hrm hno htk
              go_wp2_with fail
              have kc := al_Take (i := 1) (show St w.heap.size w wr (([BlsO (.slice a7 L.length c7) L, ArT p ⟨0, cn, b⟩] : List Ob).set 1 (ArT p ⟨0, cn, b⟩)) from T8.out) (Nat.lt_succ_self 1) HRT.out S HSZ.out
              rw [HTK.out] at kc
              with_reducible refine kc.mono ?_
              clear kc
              rintro e w9 ⟨rfl, t9⟩
              have T9 := Lib.hid t9
              clear t9
              go_wp2_with fail
              have kc := code_of w9 5 (by decide) (by decide)
              with_reducible refine kc.mono ?_
              clear kc
              rintro e w' ⟨rfl, rfl⟩
              go_wp2_with fail
              have kc := chk_Check T9.out (Nat.lt_succ_self 1)
              with_reducible refine kc.mono ?_
              clear kc
              rintro e w10 ⟨r10', rfl, b10', t10⟩
              have T10 := Lib.hid t10
              clear t10
              obtain rfl := chkV_true b10' HIR.out
              rw [show chkV true = .nilIface from rfl]
              have T11 := Lib.hid (show St w.heap.size w w10 [BlsO (.slice a7 L.length c7) L, ArT p ⟨0, cn, b⟩] from T10.out)
              clear T8 T9 T10
              go_wp2_with fail
              have kc := blk_Walk T11.out (i := 1) rfl
              rw [show ({ base := 0, cap := cn, b := b } : Ar).b = b from rfl, HWK.out, show errW (some (bsOf m)) = .nilIface from rfl, Option.getD_some, ← HL.out] at kc
              with_reducible refine kc.mono ?_
              clear kc
              rintro e w12 ⟨v12', rfl, t12⟩
              have T12 := Lib.hid t12
              clear t12
              obtain ⟨a13, c13, e13, hs13⟩ := bls_slice T12.out (i := 0) rfl
              subst e13
              have q3 := Sl.cap hs13; have q4 := Sl.room hs13
              have kb := law_Blocks w12 a13 c13 L a7 c7 L hs13 (bls_sl T12.out (i := 1) rfl).2
              rw [if_pos rfl] at kb
              have KB := Lib.hid kb
              clear kb hs13
              go_wp2_with fail
              have kc := KB.out
              with_reducible refine kc.mono ?_
              clear kc
              rintro e w14 ⟨rfl, b14⟩
              have B14 := Lib.hid b14
              clear b14
              have BZ := Lib.hid (T12.out.below B14.out).end
              go_wp2
              go_ret
              exact ⟨rfl, BZ.out⟩
            | some q3 =>
              obtain ⟨o, m', ls'⟩ := q3
              rw [htk] at hrm
              have hyes : rm = true ∨ en + S ≤ cn := hrm.1 rfl
              have HTK := Lib.hid htk
              obtain ⟨s, z1, z2, z3, z4⟩ := take_new HRT.out HSZ.out htk
              rw [← HL.out] at z4
              have hfn2 := fine_takeM HFN.out htk
              have HZ3 := Lib.hid z3; have HZ4 := Lib.hid z4; have HFN2 := Lib.hid hfn2; have HZ1 := Lib.hid z1; have HZ2 := Lib.hid z2
              have d7 : decide ((s : Int) < (S : Int)) = false := decide_eq_false (by omega)
              have d7' : decide (s < S) = false := decide_eq_false (by omega)
              have u6 : IntKind.i64.wrap ((S : Int) + 32) = (S : Int) + 32 := IntWalk.i64_in _ (by have := HSLE.out; omega)
              have d8 : decide ((s : Int) ≥ (S : Int) + 32) = false := decide_eq_false (by omega)
              have d8' : decide ((S : Int) + 32 ≤ (s : Int)) = false := decide_eq_false (by omega)
              clear hrm htk z1 z2 z3 z4 hfn2
              cases rm with
              | true =>
                clear hyes
                go_wp2_with fail
                have kc := al_Take (i := 1) (show St w.heap.size w wr (([BlsO (.slice a7 L.length c7) L, ArT p ⟨0, cn, b⟩] : List Ob).set 1 (ArT p ⟨0, cn, b⟩)) from T8.out) (Nat.lt_succ_self 1) HRT.out S HSZ.out
                rw [HTK.out] at kc
                with_reducible refine kc.mono ?_
                clear kc
                rintro e w9 ⟨rfl, b9', t9, hu9, hr9⟩
                have T9 := Lib.hid t9
                have HU9 := Lib.hid hu9
                have HR9 := Lib.hid hr9
                clear t9 hu9 hr9
                go_wp2_with fail
                have kc := chk_Check T9.out (Nat.lt_succ_self 1)
                with_reducible refine kc.mono ?_
                clear kc
                rintro e w10 ⟨r10', rfl, b10', t10⟩
                have T10 := Lib.hid t10
                clear t10
                obtain rfl := chkV_true b10' ⟨_, _, HR9.out, HFN2.out.1⟩
                rw [show chkV true = .nilIface from rfl]
                have T11 := Lib.hid (show St w.heap.size w w10 [BlsO (.slice a7 L.length c7) L, ArT p ⟨0, cn, b9'⟩] from T10.out)
                clear T8 T9 T10
                have hgm := HR9.out.good.mem HZ3.out
                have hbl : blkI b9' (o : Int) = some ⟨o, s, true⟩ := by rw [blkI_nat]; exact hgm.2.1
                have HOS := Lib.hid (show o + s ≤ 16384 by have h1 : o + s ≤ b9'.length := hgm.2.2; have := HR9.out.max; omega)
                have u7 : IntKind.i64.wrap ((o : Int) + (s : Int)) = (o : Int) + (s : Int) := IntWalk.i64_in _ (by have := HOS.out; omega)
                have HBL := Lib.hid hbl
                clear hgm hbl
                go_wp2_with fail
                have kc := blk_Get T11.out (i := 1) rfl (o : Int)
                rw [show ({ base := 0, cap := cn, b := b9' } : Ar).b = b9' from rfl, HBL.out, show bkV (some ⟨o, s, true⟩) = .agg #[.int .i64 o, .int .i64 s, .bool true] from rfl, show errO (some ⟨o, s, true⟩) = .nilIface from rfl] at kc
                with_reducible refine kc.mono ?_
                clear kc
                rintro e w12 ⟨rfl, t12⟩
                have T12 := Lib.hid t12
                clear t12
                go_wp2_with (first | (refine bk_alloc T12.out rfl rfl ?_; intro g13 w13 h13; have T13 := Lib.hid h13; clear h13) | (refine bk_store T13.out 0 rfl rfl _ _ rfl rfl o s true rfl ?_; intro w14 h14; have T14 := Lib.hid h14; clear h14 T13; have x1 : w14.cell? ⟨g13, 1, none⟩ = some (.int .i64 s) := (T14.out.row (i := 0) rfl).cell 1; have x2 : w14.cell? ⟨g13, 2, none⟩ = some (.bool true) := (T14.out.row (i := 0) rfl).cell 2; go_wp2_with fail))
                clear x1 x2
                go_loopw [23] (fun vi wr3 => ∃ k : Nat, k ≤ L.length ∧ vi = .int .i64 k ∧ St w.heap.size w wr3 [BkO g13 o s true, BlsO (.slice a7 L.length c7) L, ArT p ⟨0, cn, b9'⟩]) (fun vi _ => L.length - (intOf vi).toNat)
                case atStart => exact ⟨0, Nat.zero_le _, rfl, T14.out⟩
                case round =>
                  obtain ⟨k, hk, rfl, hS⟩ := hrel
                  clear T14 T12 T11
                  by_cases hlt : k < L.length
                  · obtain ⟨bb, bo, e9, hr⟩ := bl_at (bls_sl hS (i := 1) rfl).2 k hlt
                    subst e9
                    have hym := HTI.out.mem (x := L[k]) (by rw [← HL.out]; exact List.getElem_mem hlt)
                    have hap := HZ4.out L[k] (List.getElem_mem hlt)
                    have d9 : decide ((k : Int) < (L.length : Int)) = true := decide_eq_true (by omega)
                    generalize L[k] = y at *
                    have hyb : y.off + y.size ≤ 16384 := by have := HMX.out; omega
                    have u8 : IntKind.i64.wrap ((y.off : Int) + (y.size : Int)) = (y.off : Int) + (y.size : Int) := IntWalk.i64_in _ (by omega)
                    have HRG := Lib.hid hr; have TS := Lib.hid hS; have HAP := Lib.hid hap
                    clear hr hS hym hap hyb
                    cases hu : y.used with
                    | false =>
                      have HU := Lib.hid hu
                      clear hu
                      go_wp2_with (first | (refine bl_mid rfl _ rfl bb (bo + k * 3) rfl y HRG.out ?_) | (refine bk_alloc TS.out rfl rfl ?_; intro g15 w15 h15; have T15 := Lib.hid h15; clear h15) | (refine bk_store T15.out 0 rfl rfl _ _ rfl rfl y.off y.size y.used rfl ?_; intro w16 h16; have T16 := Lib.hid h16; clear h16 T15; have y2 : w16.cell? ⟨g15, 2, none⟩ = some (.bool false) := (by have := (T16.out.row (i := 0) rfl).cell 2; simp only [HU.out] at this; exact this); go_wp2_with fail))
                      exact ⟨⟨k + 1, hlt, by go_num, T16.out.tail⟩, by simp [intOf]; omega⟩
                    | true =>
                      have HU := Lib.hid hu
                      have hap := HAP.out hu
                      clear hu
                      by_cases hA : y.off < o + s
                      · have dA : decide ((y.off : Int) < (o : Int) + (s : Int)) = true := decide_eq_true (by omega)
                        have dA' : decide (y.off < o + s) = true := decide_eq_true hA
                        have dB : decide ((o : Int) < (y.off : Int) + (y.size : Int)) = false := decide_eq_false (by omega)
                        have dB' : decide (o < y.off + y.size) = false := decide_eq_false (by omega)
                        clear hap hA
                        go_wp2_with (first | (refine bl_mid rfl _ rfl bb (bo + k * 3) rfl y HRG.out ?_) | (refine bk_alloc TS.out rfl rfl ?_; intro g15 w15 h15; have T15 := Lib.hid h15; clear h15) | (refine bk_store T15.out 0 rfl rfl _ _ rfl rfl y.off y.size y.used rfl ?_; intro w16 h16; have T16 := Lib.hid h16; clear h16 T15; have y2 : w16.cell? ⟨g15, 2, none⟩ = some (.bool true) := (by have := (T16.out.row (i := 0) rfl).cell 2; simp only [HU.out] at this; exact this); have y0 : w16.cell? ⟨g15, 0, none⟩ = some (.int .i64 y.off) := (T16.out.row (i := 0) rfl).cell 0; have y1 : w16.cell? ⟨g15, 1, none⟩ = some (.int .i64 y.size) := (T16.out.row (i := 0) rfl).cell 1; have x0 : w16.cell? ⟨g13, 0, none⟩ = some (.int .i64 o) := (T16.out.row (i := 1) rfl).cell 0; have x1 : w16.cell? ⟨g13, 1, none⟩ = some (.int .i64 s) := (T16.out.row (i := 1) rfl).cell 1; go_wp2_with fail))
                        exact ⟨⟨k + 1, hlt, by go_num, T16.out.tail⟩, by simp [intOf]; omega⟩
                      · have dA : decide ((y.off : Int) < (o : Int) + (s : Int)) = false := decide_eq_false (by omega)
                        have dA' : decide (y.off < o + s) = false := decide_eq_false hA
                        clear hap hA
                        go_wp2_with (first | (refine bl_mid rfl _ rfl bb (bo + k * 3) rfl y HRG.out ?_) | (refine bk_alloc TS.out rfl rfl ?_; intro g15 w15 h15; have T15 := Lib.hid h15; clear h15) | (refine bk_store T15.out 0 rfl rfl _ _ rfl rfl y.off y.size y.used rfl ?_; intro w16 h16; have T16 := Lib.hid h16; clear h16 T15; have y2 : w16.cell? ⟨g15, 2, none⟩ = some (.bool true) := (by have := (T16.out.row (i := 0) rfl).cell 2; simp only [HU.out] at this; exact this); have y0 : w16.cell? ⟨g15, 0, none⟩ = some (.int .i64 y.off) := (T16.out.row (i := 0) rfl).cell 0; have y1 : w16.cell? ⟨g15, 1, none⟩ = some (.int .i64 y.size) := (T16.out.row (i := 0) rfl).cell 1; have x0 : w16.cell? ⟨g13, 0, none⟩ = some (.int .i64 o) := (T16.out.row (i := 1) rfl).cell 0; have x1 : w16.cell? ⟨g13, 1, none⟩ = some (.int .i64 s) := (T16.out.row (i := 1) rfl).cell 1; go_wp2_with fail))
                        exact ⟨⟨k + 1, hlt, by go_num, T16.out.tail⟩, by simp [intOf]; omega⟩
                  · obtain rfl : k = L.length := by omega
                    have d9 : decide ((L.length : Int) < (L.length : Int)) = false := decide_eq_false (by omega)
                    have BZ := Lib.hid hS.end
                    clear hS
                    go_wp2
                    go_ret
                    exact ⟨rfl, BZ.out⟩
              | false =>
                have hle : en + S ≤ cn := by simpa using hyes
                have d5 : decide ((cn : Int) - (en : Int) ≥ (S : Int)) = true := decide_eq_true (by omega)
                have d6 : decide ((S : Int) ≤ (cn : Int) - (en : Int)) = true := decide_eq_true (by omega)
                clear hyes hle
                go_wp2_with fail
                have kc := al_Take (i := 1) (show St w.heap.size w wr (([BlsO (.slice a7 L.length c7) L, ArT p ⟨0, cn, b⟩] : List Ob).set 1 (ArT p ⟨0, cn, b⟩)) from T8.out) (Nat.lt_succ_self 1) HRT.out S HSZ.out
                rw [HTK.out] at kc
                with_reducible refine kc.mono ?_
                clear kc
                rintro e w9 ⟨rfl, b9', t9, hu9, hr9⟩
                have T9 := Lib.hid t9
                have HU9 := Lib.hid hu9
                have HR9 := Lib.hid hr9
                clear t9 hu9 hr9
                go_wp2_with fail
                have kc := chk_Check T9.out (Nat.lt_succ_self 1)
                with_reducible refine kc.mono ?_
                clear kc
                rintro e w10 ⟨r10', rfl, b10', t10⟩
                have T10 := Lib.hid t10
                clear t10
                obtain rfl := chkV_true b10' ⟨_, _, HR9.out, HFN2.out.1⟩
                rw [show chkV true = .nilIface from rfl]
                have T11 := Lib.hid (show St w.heap.size w w10 [BlsO (.slice a7 L.length c7) L, ArT p ⟨0, cn, b9'⟩] from T10.out)
                clear T8 T9 T10
                have hgm := HR9.out.good.mem HZ3.out
                have hbl : blkI b9' (o : Int) = some ⟨o, s, true⟩ := by rw [blkI_nat]; exact hgm.2.1
                have HOS := Lib.hid (show o + s ≤ 16384 by have h1 : o + s ≤ b9'.length := hgm.2.2; have := HR9.out.max; omega)
                have u7 : IntKind.i64.wrap ((o : Int) + (s : Int)) = (o : Int) + (s : Int) := IntWalk.i64_in _ (by have := HOS.out; omega)
                have HBL := Lib.hid hbl
                clear hgm hbl
                go_wp2_with fail
                have kc := blk_Get T11.out (i := 1) rfl (o : Int)
                rw [show ({ base := 0, cap := cn, b := b9' } : Ar).b = b9' from rfl, HBL.out, show bkV (some ⟨o, s, true⟩) = .agg #[.int .i64 o, .int .i64 s, .bool true] from rfl, show errO (some ⟨o, s, true⟩) = .nilIface from rfl] at kc
                with_reducible refine kc.mono ?_
                clear kc
                rintro e w12 ⟨rfl, t12⟩
                have T12 := Lib.hid t12
                clear t12
                go_wp2_with (first | (refine bk_alloc T12.out rfl rfl ?_; intro g13 w13 h13; have T13 := Lib.hid h13; clear h13) | (refine bk_store T13.out 0 rfl rfl _ _ rfl rfl o s true rfl ?_; intro w14 h14; have T14 := Lib.hid h14; clear h14 T13; have x1 : w14.cell? ⟨g13, 1, none⟩ = some (.int .i64 s) := (T14.out.row (i := 0) rfl).cell 1; have x2 : w14.cell? ⟨g13, 2, none⟩ = some (.bool true) := (T14.out.row (i := 0) rfl).cell 2; go_wp2_with fail))
                clear x1 x2
                go_loopw [23] (fun vi wr3 => ∃ k : Nat, k ≤ L.length ∧ vi = .int .i64 k ∧ St w.heap.size w wr3 [BkO g13 o s true, BlsO (.slice a7 L.length c7) L, ArT p ⟨0, cn, b9'⟩]) (fun vi _ => L.length - (intOf vi).toNat)
                case atStart => exact ⟨0, Nat.zero_le _, rfl, T14.out⟩
                case round =>
                  obtain ⟨k, hk, rfl, hS⟩ := hrel
                  clear T14 T12 T11
                  by_cases hlt : k < L.length
                  · obtain ⟨bb, bo, e9, hr⟩ := bl_at (bls_sl hS (i := 1) rfl).2 k hlt
                    subst e9
                    have hym := HTI.out.mem (x := L[k]) (by rw [← HL.out]; exact List.getElem_mem hlt)
                    have hap := HZ4.out L[k] (List.getElem_mem hlt)
                    have d9 : decide ((k : Int) < (L.length : Int)) = true := decide_eq_true (by omega)
                    generalize L[k] = y at *
                    have hyb : y.off + y.size ≤ 16384 := by have := HMX.out; omega
                    have u8 : IntKind.i64.wrap ((y.off : Int) + (y.size : Int)) = (y.off : Int) + (y.size : Int) := IntWalk.i64_in _ (by omega)
                    have HRG := Lib.hid hr; have TS := Lib.hid hS; have HAP := Lib.hid hap
                    clear hr hS hym hap hyb
                    cases hu : y.used with
                    | false =>
                      have HU := Lib.hid hu
                      clear hu
                      go_wp2_with (first | (refine bl_mid rfl _ rfl bb (bo + k * 3) rfl y HRG.out ?_) | (refine bk_alloc TS.out rfl rfl ?_; intro g15 w15 h15; have T15 := Lib.hid h15; clear h15) | (refine bk_store T15.out 0 rfl rfl _ _ rfl rfl y.off y.size y.used rfl ?_; intro w16 h16; have T16 := Lib.hid h16; clear h16 T15; have y2 : w16.cell? ⟨g15, 2, none⟩ = some (.bool false) := (by have := (T16.out.row (i := 0) rfl).cell 2; simp only [HU.out] at this; exact this); go_wp2_with fail))
                      exact ⟨⟨k + 1, hlt, by go_num, T16.out.tail⟩, by simp [intOf]; omega⟩
                    | true =>
                      have HU := Lib.hid hu
                      have hap := HAP.out hu
                      clear hu
                      by_cases hA : y.off < o + s
                      · have dA : decide ((y.off : Int) < (o : Int) + (s : Int)) = true := decide_eq_true (by omega)
                        have dA' : decide (y.off < o + s) = true := decide_eq_true hA
                        have dB : decide ((o : Int) < (y.off : Int) + (y.size : Int)) = false := decide_eq_false (by omega)
                        have dB' : decide (o < y.off + y.size) = false := decide_eq_false (by omega)
                        clear hap hA
                        go_wp2_with (first | (refine bl_mid rfl _ rfl bb (bo + k * 3) rfl y HRG.out ?_) | (refine bk_alloc TS.out rfl rfl ?_; intro g15 w15 h15; have T15 := Lib.hid h15; clear h15) | (refine bk_store T15.out 0 rfl rfl _ _ rfl rfl y.off y.size y.used rfl ?_; intro w16 h16; have T16 := Lib.hid h16; clear h16 T15; have y2 : w16.cell? ⟨g15, 2, none⟩ = some (.bool true) := (by have := (T16.out.row (i := 0) rfl).cell 2; simp only [HU.out] at this; exact this); have y0 : w16.cell? ⟨g15, 0, none⟩ = some (.int .i64 y.off) := (T16.out.row (i := 0) rfl).cell 0; have y1 : w16.cell? ⟨g15, 1, none⟩ = some (.int .i64 y.size) := (T16.out.row (i := 0) rfl).cell 1; have x0 : w16.cell? ⟨g13, 0, none⟩ = some (.int .i64 o) := (T16.out.row (i := 1) rfl).cell 0; have x1 : w16.cell? ⟨g13, 1, none⟩ = some (.int .i64 s) := (T16.out.row (i := 1) rfl).cell 1; go_wp2_with fail))
                        exact ⟨⟨k + 1, hlt, by go_num, T16.out.tail⟩, by simp [intOf]; omega⟩
                      · have dA : decide ((y.off : Int) < (o : Int) + (s : Int)) = false := decide_eq_false (by omega)
                        have dA' : decide (y.off < o + s) = false := decide_eq_false hA
                        clear hap hA
                        go_wp2_with (first | (refine bl_mid rfl _ rfl bb (bo + k * 3) rfl y HRG.out ?_) | (refine bk_alloc TS.out rfl rfl ?_; intro g15 w15 h15; have T15 := Lib.hid h15; clear h15) | (refine bk_store T15.out 0 rfl rfl _ _ rfl rfl y.off y.size y.used rfl ?_; intro w16 h16; have T16 := Lib.hid h16; clear h16 T15; have y2 : w16.cell? ⟨g15, 2, none⟩ = some (.bool true) := (by have := (T16.out.row (i := 0) rfl).cell 2; simp only [HU.out] at this; exact this); have y0 : w16.cell? ⟨g15, 0, none⟩ = some (.int .i64 y.off) := (T16.out.row (i := 0) rfl).cell 0; have y1 : w16.cell? ⟨g15, 1, none⟩ = some (.int .i64 y.size) := (T16.out.row (i := 0) rfl).cell 1; have x0 : w16.cell? ⟨g13, 0, none⟩ = some (.int .i64 o) := (T16.out.row (i := 1) rfl).cell 0; have x1 : w16.cell? ⟨g13, 1, none⟩ = some (.int .i64 s) := (T16.out.row (i := 1) rfl).cell 1; go_wp2_with fail))
                        exact ⟨⟨k + 1, hlt, by go_num, T16.out.tail⟩, by simp [intOf]; omega⟩
                  · obtain rfl : k = L.length := by omega
                    have d9 : decide ((L.length : Int) < (L.length : Int)) = false := decide_eq_false (by omega)
                    have BZ := Lib.hid hS.end
                    clear hS
                    go_wp2
                    go_ret
                    exact ⟨rfl, BZ.out⟩
  · have HNO := Lib.hid (show ¬ ((0 : Int) % 16 = 0 ∧ (0 : Int) ≤ 4611686018427387904 ∧ 1024 ≤ cap ∧ cap ≤ 16384) from fun h => hmay h.2.2)
    have B3 := Lib.hid TY.out.end
    clear hR hz
    by_cases e0 : 1024 ≤ cap
    · have e1 : decide (cap ≥ 1024) = true := decide_eq_true e0
      have e2 : decide (cap ≤ 16384) = false := decide_eq_false (fun h => hmay ⟨e0, h⟩)
      clear e0 hmay c0 c1
      go_wp2_with fail
      have kc := law_Arena_none W 0 cap (by decide) (by decide) (some ⟨g, 0, none⟩) 184 184 HNO.out
      with_reducible refine kc.mono ?_
      clear kc
      rintro e w' ⟨rfl, rfl⟩
      go_wp2
      go_ret
      exact ⟨rfl, B3.out⟩
    · have e1 : decide (cap ≥ 1024) = false := decide_eq_false e0
      clear e0 hmay c0 c1
      go_wp2_with fail
      have kc := law_Arena_none W 0 cap (by decide) (by decide) (some ⟨g, 0, none⟩) 184 184 HNO.out
      with_reducible refine kc.mono ?_
      clear kc
      rintro e w' ⟨rfl, rfl⟩
      go_wp2
      go_ret
      exact ⟨rfl, B3.out⟩
end Go.Proofs.Ytenbpbnffnodhaa
