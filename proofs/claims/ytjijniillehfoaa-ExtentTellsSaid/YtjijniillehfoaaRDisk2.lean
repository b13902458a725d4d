/- The reference's disk: Bytes, Flush, Boot. -/
import Derived.Test.YtjijniillehfoaaRDisk1
namespace Go.Proofs.Ytjijniillehfoaa
open Go Go.RowKit Go.Own
set_option linter.unusedVariables false
set_option maxRecDepth 100000
theorem rd_Bytes (w : World) (p : Nat) (D : Dk) (F : Nat → Prop) (h : RdRep w p D F) :
    Calls Try.prog 39 #[.pointer (some ⟨p, 0, none⟩)] w (BytesOk D.L.flatten w) := by
  obtain ⟨vL, vW, ss, it, h, hg, hF⟩ := h
  obtain ⟨aL, cL, rfl, hcL, hrL⟩ := h.formL
  have hm := hg.many
  have hl := h.len.1
  have hsecs := hg.secs
  have hs := h.secs
  have H := Lib.hid h; have HS := Lib.hid hs; have HSC := Lib.hid hsecs
  clear h hF hg hs hsecs
  go_enter Try.func39, Try.ntmps39
  go_wp2
  go_loopw [3, 4] (fun o v wr => ∃ k : Nat, k ≤ ss.length ∧ v = .int .i64 k ∧ wr.ownsRow w.heap.size 5 1 o (512 * k) (((ss.take k).map (·.1)).flatten.map bv) ∧ Below w.heap.size w wr) (fun _ v _ => ss.length - (intOf v).toNat)
  case atStart => exact ⟨0, Nat.zero_le _, rfl, World.ownsRow_nil _ _ _ _, Below.refl _ _⟩
  case round =>
    obtain ⟨k, hk, rfl, ho, hb⟩ := hrel
    have hr := H.out.kept (F := fun _ => False) (.of_below hb) fun _ _ h => h
    have q0 : wr.cell? ⟨p, 0, none⟩ = some (.slice aL ss.length cL) := hr.row.cell 0
    by_cases hlt : k < ss.length
    · obtain ⟨gL, rfl, u0⟩ := own_cell2 hr.ownL k ss[k].2 (by simp [hlt])
      have hin := hr.inner ss[k] (List.getElem_mem hlt)
      have htk : ((ss.take (k + 1)).map (·.1)).flatten = ((ss.take k).map (·.1)).flatten ++ ss[k].1 := by
        rw [List.take_succ_eq_append_getElem hlt, List.map_append, List.flatten_append]; simp
      generalize ss[k].2 = v0 at *
      generalize ss[k].1 = S0 at *
      obtain ⟨a0, c0, rfl, hB⟩ := own_some1 hin
      have HO := Lib.hid ho; have HB := Lib.hid hb; have HBB := Lib.hid hB; have HTK := Lib.hid htk
      clear ho hb hB hr hin htk
      go_wp2_with (at_builtin; go_must (refine app_sl rfl _ _ 31 rfl w.heap.size 5 (.int .u8 0) 1 1 Try.underlying31 info_u8 rfl (by decide) _ (512 * k) _ rfl HO.out _ _ _ _ rfl HBB.out (bv_one _) (by omega) (by omega) HB.out.size ?_; intro v1 w1 hown1 hg1))
      refine ⟨⟨k + 1, by omega, by go_num, ?_, HB.out.trans hg1⟩, by simp [intOf]; omega⟩
      exact ownsRow_map hown1 (by omega) (by rw [HTK.out, List.map_append])
    · obtain rfl : k = ss.length := by omega
      have HO := Lib.hid ho; have HB := Lib.hid hb
      clear ho hb hr
      go_wp2
      go_ret
      have hfl : (((ss.take ss.length).map (·.1)).flatten) = D.L.flatten := by rw [List.take_length, HS.out]
      have ho := HO.out
      rw [hfl] at ho
      refine ⟨_, rfl, ?_, HB.out⟩
      exact ownsRow_map ho (by rw [secs_len HSC.out, hl]) rfl
theorem own_set0 {w : World} {B n cap g : Nat} {e : TypeId} {l : List Value} (h : w.ownsRow B e 1 (.slice (some ⟨g, 0, none⟩) n cap) n l) (i : Nat) (hi : i < n) (u : Value) :
    (w.setCell ⟨g, i, none⟩ u).ownsRow B e 1 (.slice (some ⟨g, 0, none⟩) n cap) n (l.set i u) := by
  obtain ⟨h1, h2⟩ := h
  rcases h2 with ⟨h2, _⟩ | ⟨g', cap', cur, h2, a1, a2, a3, a4, a5, a6⟩
  · cases h2
  · cases h2
    simp only [Nat.mul_one] at h1 a5 a6
    refine ⟨by simpa using h1, .inr ⟨g, cap, cur.setIfInBounds i u, rfl, a1, blk_set a2 i u, a3, a4, by simpa using a5, ?_⟩⟩
    rw [← a6, Array.toList_setIfInBounds, Nat.mul_one, List.take_set]
theorem own_thaw {w : World} {B n n' cap g z : Nat} {e : TypeId} {l : List Value} (h : w.ownsRow B e z (.slice (some ⟨g, 0, none⟩) n' cap) n l) (i : Nat) : w.frozen? ⟨g, i, none⟩ = false := by
  obtain ⟨h1, h2⟩ := h
  rcases h2 with ⟨h2, _⟩ | ⟨g', cap', cur, h2, a1, a2, a3, a4, a5, a6⟩
  · cases h2
  · cases h2
    simp [World.frozen?, a2]
theorem own_cell3 {w : World} {B n n' cap z : Nat} {a : Option Addr} {e : TypeId} {l : List Value} (h : w.ownsRow B e z (.slice a n' cap) n l) (q : Nat) (v : Value) (hv : l[q]? = some v) : ∃ g, a = some ⟨g, 0, none⟩ ∧ w.cell? ⟨g, q, none⟩ = some v := by
  obtain ⟨a', c', e1, _, hs⟩ := Sl.of_owned h
  injection e1 with e1 e2 e3
  subst e2
  exact own_cell2 h q v hv
theorem RdAt.drew {w : World} {p : Nat} {D : Dk} {vL vW : Value} {ss : List (List UInt8 × Value)} {it : List Wt} (h : RdAt w p D vL vW ss it) : RdAt w.drew p D vL vW ss it := h.kept (F := fun _ => False) ((Keep.refl _ _).drew) fun _ _ h => h
theorem RdAt.put {w : World} {p gL n cL qi : Nat} {D : Dk} {vW : Value} {ss : List (List UInt8 × Value)} {it : List Wt} (h : RdAt w p D (.slice (some ⟨gL, 0, none⟩) n cL) vW ss it) (hq : qi < ss.length) (x : Wt) (hx : x ∈ it) :
    RdAt (w.setCell ⟨gL, qi, none⟩ x.v) p { D with L := (ss.set qi (x.b, x.v)).map (·.1) } (.slice (some ⟨gL, 0, none⟩) n cL) vW (ss.set qi (x.b, x.v)) it := by
  have hn : n = ss.length := by obtain ⟨a, c, e, _⟩ := h.formL; cases e; rfl
  subst hn
  have hk : Keep (· = gL) w (w.setCell ⟨gL, qi, none⟩ x.v) := (Keep.refl (· = gL) w).setCell (p := ⟨gL, qi, none⟩) (.inl rfl) x.v
  refine ⟨h.row.keep hk fun e => own_row_ne h.ownL h.row (by decide) (p := p) (by rw [e]; rfl), ?_, own_kept h.ownW hk fun y hy e => own_type_ne h.ownW h.ownL (by decide) hy (by rw [e]; rfl), rfl, h.wait, fun y hy => ?_, fun y hy => own_kept (h.items y hy) hk fun z hz e => own_type_ne (h.items y hy) h.ownL (by decide) hz (by rw [e]; rfl)⟩
  · have := own_set0 h.ownL qi hq x.v
    refine ownsRow_map this (by rw [List.length_set]) ?_
    rw [List.map_set]
  · rcases List.mem_or_eq_of_mem_set hy with hy | rfl
    · exact own_kept (h.inner y hy) hk fun z hz e => own_type_ne (h.inner y hy) h.ownL (by decide) hz (by rw [e]; rfl)
    · exact own_kept (h.items x hx) hk fun z hz e => own_type_ne (h.items x hx) h.ownL (by decide) hz (by rw [e]; rfl)
theorem RdAt.done {w w' : World} {p : Nat} {D D' : Dk} {vL vW : Value} {ss : List (List UInt8 × Value)} {it : List Wt} (h : RdAt w p D vL vW ss it) (hr : Row w' p 47 [vL, .slice none 0 0, .bool D'.off, .int .i64 D'.left]) (hk : Keep (· = p) w w') (hL : D'.L = D.L) (hw : D'.wait = []) : RdAt w' p D' vL (.slice none 0 0) ss [] :=
  ⟨hr, own_kept h.ownL hk fun x hx e => own_row_ne h.ownL h.row (by decide) (e ▸ hx), World.ownsRow_nil _ _ _ _, hL.trans h.secs, hw, fun x hx => own_kept (h.inner x hx) hk fun y hy e => own_row_ne (h.inner x hx) h.row (by decide) (e ▸ hy), fun x hx => by cases hx⟩
theorem rd_Flush_off (w : World) (p : Nat) (D : Dk) (F : Nat → Prop) (h : RdRep w p D F) (ho : D.off = true) :
    Calls Try.prog 135 #[.pointer (some ⟨p, 0, none⟩)] w fun e w' => e = .returned (.int .i64 6) ∧ w = w' := by
  obtain ⟨vL, vW, ss, it, h, hg, hF⟩ := h
  have q2 : w.cell? ⟨p, 2, none⟩ = some (.bool D.off) := h.row.cell 2
  rw [ho] at q2
  clear h hF ho hg
  go_enter Try.func135, Try.ntmps135
  go_wp2
  go_ret
  exact ⟨rfl, rfl⟩
set_option maxHeartbeats 4000000 in
theorem rd_Flush_ok (w : World) (p : Nat) (D : Dk) (F : Nat → Prop) (h : RdRep w p D F) (ho : D.off = false) (hmany : D.wait.length ≤ 1000000) :
    Calls Try.prog 135 #[.pointer (some ⟨p, 0, none⟩)] w fun e w' => e = .returned (.int .i64 0) ∧ RdTo p (D.stand fun _ => true) F w w' := by
  obtain ⟨vL, vW, ss, it, h, hg, hF⟩ := h
  obtain ⟨aL, cL, rfl, hcL, hrL⟩ := h.formL
  obtain ⟨aW, cW, rfl, hcW, hrW⟩ := h.formW
  obtain ⟨hl, hlw⟩ := h.len
  have hm := hg.many
  have hl0 : 0 < ss.length := by omega
  obtain ⟨gL, rfl, _⟩ := own_cell2 h.ownL 0 (ss[0]'hl0).2 (by simp [hl0])
  have q2 : w.cell? ⟨p, 2, none⟩ = some (.bool D.off) := h.row.cell 2
  rw [ho] at q2
  obtain ⟨keep, hkeep⟩ : ∃ keep : Nat → Bool, keep = fun _ => true := ⟨_, rfl⟩
  rw [← hkeep]
  have H := Lib.hid h; have HG := Lib.hid hg; have HF := Lib.hid hF; have HK := Lib.hid hkeep
  have hpg : ¬ p = gL := fun e => own_row_ne h.ownL h.row (by decide) (p := p) (by rw [e]; rfl)
  clear h hg hF ho hkeep
  go_enter Try.func135, Try.ntmps135
  go_wp2
  go_loopw [3] (fun v wr => ∃ (k : Nat) (s2 : List (List UInt8 × Value)), k ≤ it.length ∧ v = .int .i64 k ∧ RdAt wr p { D with L := s2.map (·.1) } (.slice (some ⟨gL, 0, none⟩) ss.length cL) (.slice aW it.length cW) s2 it ∧ s2.length = ss.length ∧ standL (D.wait.drop k) keep k (s2.map (·.1)) = standL D.wait keep 0 D.L ∧ Keep (· = gL) w wr ∧ ∀ x ∈ s2, x ∈ ss ∨ ∃ y ∈ it, x.2 = y.v) (fun v _ => it.length - (intOf v).toNat)
  case atStart =>
    have h := H.out
    refine ⟨0, ss, Nat.zero_le _, rfl, ?_, rfl, by rw [← h.secs]; rfl, .refl _ _, fun x hx => .inl hx⟩
    rw [← h.secs]; exact h
  case round =>
    obtain ⟨k, s2, hk, rfl, hR, hs2, hst, hkp, hin⟩ := hrel
    have q1 : wr.cell? ⟨p, 1, none⟩ = some (.slice aW it.length cW) := hR.row.cell 1
    by_cases hlt : k < it.length
    · obtain ⟨t1, t2⟩ := wt_at it k hlt
      obtain ⟨gW, rfl, u1⟩ := own_cell3 hR.ownW _ _ t1
      obtain ⟨_, e2, u2⟩ := own_cell3 hR.ownW _ _ t2
      cases e2
      have hWL : ¬ gW = gL := fun e => own_type_ne hR.ownW hR.ownL (by decide) (k := gW) rfl (by rw [e]; rfl)
      have hwk : D.wait.drop k = (it[k].i, it[k].b) :: D.wait.drop (k + 1) := by
        have hk2 : k < D.wait.length := by omega
        rw [List.drop_eq_getElem_cons hk2]
        congr 1
        simp [H.out.wait, Wt.of]
      rw [hwk, standL_cons] at hst
      have hw0 := HG.out.waits (it[k].i, it[k].b) (by rw [H.out.wait]; exact List.mem_map.2 ⟨it[k], List.getElem_mem hlt, rfl⟩)
      simp only at hw0
      have hkk : keep k = true := by rw [HK.out]
      rw [hkk, if_pos rfl] at hst
      have hq : it[k].i < s2.length := by omega
      have hput := RdAt.put hR.drew hq it[k] (List.getElem_mem hlt)
      have hset : (s2.map (·.1)).set it[k].i it[k].b = (s2.set it[k].i (it[k].b, it[k].v)).map (·.1) := by rw [List.map_set]
      rw [hset] at hst
      have hin2 : ∀ x ∈ s2.set it[k].i (it[k].b, it[k].v), x ∈ ss ∨ ∃ y ∈ it, x.2 = y.v := fun x hx => by
        rcases List.mem_or_eq_of_mem_set hx with hx | rfl
        · exact hin x hx
        · exact .inr ⟨it[k], List.getElem_mem hlt, rfl⟩
      have hf0 := own_thaw hR.drew.ownL it[k].i
      obtain ⟨cur, hcur⟩ : ∃ u, wr.drew.cell? ⟨gL, it[k].i, none⟩ = some u := by
        obtain ⟨_, e, hc⟩ := own_cell3 hR.drew.ownL it[k].i s2[it[k].i].2 (by simp [hq])
        cases e; exact ⟨_, hc⟩
      have hrow := hR.row.drew
      have hW := own_drew hR.ownW
      have hi128 : it[k].i < 128 := by omega
      have hiss : it[k].i < ss.length := by omega
      have HP := Lib.hid hput; have HST := Lib.hid hst; have HIN := Lib.hid hin2; have HKP := Lib.hid hkp; have HW := Lib.hid hW; have HR := Lib.hid hrow
      have hs3 : (s2.set it[k].i (it[k].b, it[k].v)).length = ss.length := by rw [List.length_set]; exact hs2
      generalize s2.set it[k].i (it[k].b, it[k].v) = s3 at *
      have T1 := Lib.hid t1; have T2 := Lib.hid t2
      generalize it[k].i = qi at *
      obtain ⟨a7, c7, hv7, _⟩ := own_some1 (H.out.items it[k] (List.getElem_mem hlt))
      generalize it[k].v = qv at *
      subst hv7
      clear hput hst hin2 hin hkp hR hwk hset hW hrow t1 t2 hkk hw0
      go_wp2
      refine flowe_begin (F := fun x => x = gL) hmixed 22 rfl (by repeat (first | exact ps_body | refine ps_then ?_ | refine ps_block ?_)) (fun hps => ?_)
      simp only [List.replicate]
      have kk := (Keep.refl (fun x => x = gL) (wr)).drew
      refine flowe_take 0 (v := ?_) (a' := ?_) hps rfl (by kernel_rfl) rfl ?_ ?_ ?_
      rotate_left 2
      · intro w' hk; go_simp; try rfl
      · simp only [Act.put, List.setIfInBounds_toArray, List.set_cons_succ, List.set_cons_zero]; try rfl
      refine flowe_take 1 (v := ?_) (a' := ?_) hps rfl (by kernel_rfl) rfl ?_ ?_ ?_
      rotate_left 2
      · intro w' hk; go_simp; try rfl
      · simp only [Act.put, List.setIfInBounds_toArray, List.set_cons_succ, List.set_cons_zero]; try rfl
      refine flowe_take 2 (v := ?_) (a' := ?_) hps rfl (by kernel_rfl) rfl ?_ ?_ ?_
      rotate_left 2
      · intro w' hk; go_simp; try rfl
      · simp only [Act.put, List.setIfInBounds_toArray, List.set_cons_succ, List.set_cons_zero]; try rfl
      refine flowe_take 3 (v := ?_) (a' := ?_) hps rfl (by kernel_rfl) rfl ?_ ?_ ?_
      rotate_left 2
      · intro w' hk; have hc := (HR.out.keep hk hpg).cell 0; simp only [List.getElem?_cons_zero] at hc; go_simp; try rfl
      · simp only [Act.put, List.setIfInBounds_toArray, List.set_cons_succ, List.set_cons_zero]; try rfl
      refine flowe_take 4 (v := ?_) (a' := ?_) hps rfl (by kernel_rfl) rfl ?_ ?_ ?_
      rotate_left 2
      · intro w' hk; go_simp; try rfl
      · simp only [Act.put, List.setIfInBounds_toArray, List.set_cons_succ, List.set_cons_zero]; try rfl
      refine flowe_take 5 (v := ?_) (a' := ?_) hps rfl (by kernel_rfl) rfl ?_ ?_ ?_
      rotate_left 2
      · intro w' hk; go_simp; try rfl
      · simp only [Act.put, List.setIfInBounds_toArray, List.set_cons_succ, List.set_cons_zero]; try rfl
      refine flowe_take 6 (v := ?_) (a' := ?_) hps rfl (by kernel_rfl) rfl ?_ ?_ ?_
      rotate_left 2
      · intro w' hk; go_simp; try rfl
      · simp only [Act.put, List.setIfInBounds_toArray, List.set_cons_succ, List.set_cons_zero]; try rfl
      refine flowe_take 7 (v := ?_) (a' := ?_) hps rfl (by kernel_rfl) rfl ?_ ?_ ?_
      rotate_left 2
      · intro w' hk; have hc := (HR.out.keep hk hpg).cell 1; simp only [List.getElem?_cons_succ, List.getElem?_cons_zero] at hc; go_simp; try rfl
      · simp only [Act.put, List.setIfInBounds_toArray, List.set_cons_succ, List.set_cons_zero]; try rfl
      refine flowe_take 8 (v := ?_) (a' := ?_) hps rfl (by kernel_rfl) rfl ?_ ?_ ?_
      rotate_left 2
      · intro w' hk; go_simp; try rfl
      · simp only [Act.put, List.setIfInBounds_toArray, List.set_cons_succ, List.set_cons_zero]; try rfl
      refine flowe_take 9 (v := ?_) (a' := ?_) hps rfl (by kernel_rfl) rfl ?_ ?_ ?_
      rotate_left 2
      · intro w' hk; go_simp; try rfl
      · simp only [Act.put, List.setIfInBounds_toArray, List.set_cons_succ, List.set_cons_zero]; try rfl
      refine flowe_take 10 (v := ?_) (a' := ?_) hps rfl (by kernel_rfl) rfl ?_ ?_ ?_
      rotate_left 2
      · intro w' hk; go_simp; try rfl
      · simp only [Act.put, List.setIfInBounds_toArray, List.set_cons_succ, List.set_cons_zero]; try rfl
      refine flowe_take 11 (v := ?_) (a' := ?_) hps rfl (by kernel_rfl) rfl ?_ ?_ ?_
      rotate_left 2
      · intro w' hk; obtain ⟨_, e, hc⟩ := own_cell2 (own_kept HW.out hk fun x hx e => hWL (by cases hx; exact e)) _ _ T1.out; cases e; go_simp; try rfl
      · simp only [Act.put, List.setIfInBounds_toArray, List.set_cons_succ, List.set_cons_zero]; try rfl
      refine flowe_take 12 (v := ?_) (a' := ?_) hps rfl (by kernel_rfl) rfl ?_ ?_ ?_
      rotate_left 2
      · intro w' hk; go_simp; try rfl
      · simp only [Act.put, List.setIfInBounds_toArray, List.set_cons_succ, List.set_cons_zero]; try rfl
      refine flowe_take 13 (v := ?_) (a' := ?_) hps rfl (by kernel_rfl) rfl ?_ ?_ ?_
      rotate_left 2
      · intro w' hk; go_simp; try rfl
      · simp only [Act.put, List.setIfInBounds_toArray, List.set_cons_succ, List.set_cons_zero]; try rfl
      refine flowe_take 14 (v := ?_) (a' := ?_) hps rfl (by kernel_rfl) rfl ?_ ?_ ?_
      rotate_left 2
      · intro w' hk; go_simp; try rfl
      · simp only [Act.put, List.setIfInBounds_toArray, List.set_cons_succ, List.set_cons_zero]; try rfl
      refine flowe_take 15 (v := ?_) (a' := ?_) hps rfl (by kernel_rfl) rfl ?_ ?_ ?_
      rotate_left 2
      · intro w' hk; have hc := (HR.out.keep hk hpg).cell 1; simp only [List.getElem?_cons_succ, List.getElem?_cons_zero] at hc; go_simp; try rfl
      · simp only [Act.put, List.setIfInBounds_toArray, List.set_cons_succ, List.set_cons_zero]; try rfl
      refine flowe_take 16 (v := ?_) (a' := ?_) hps rfl (by kernel_rfl) rfl ?_ ?_ ?_
      rotate_left 2
      · intro w' hk; go_simp; try rfl
      · simp only [Act.put, List.setIfInBounds_toArray, List.set_cons_succ, List.set_cons_zero]; try rfl
      refine flowe_take 17 (v := ?_) (a' := ?_) hps rfl (by kernel_rfl) rfl ?_ ?_ ?_
      rotate_left 2
      · intro w' hk; go_simp; try rfl
      · simp only [Act.put, List.setIfInBounds_toArray, List.set_cons_succ, List.set_cons_zero]; try rfl
      refine flowe_take 18 (v := ?_) (a' := ?_) hps rfl (by kernel_rfl) rfl ?_ ?_ ?_
      rotate_left 2
      · intro w' hk; go_simp; try rfl
      · simp only [Act.put, List.setIfInBounds_toArray, List.set_cons_succ, List.set_cons_zero]; try rfl
      refine flowe_take 19 (v := ?_) (a' := ?_) hps rfl (by kernel_rfl) rfl ?_ ?_ ?_
      rotate_left 2
      · intro w' hk; obtain ⟨_, e, hc⟩ := own_cell2 (own_kept HW.out hk fun x hx e => hWL (by cases hx; exact e)) _ _ T2.out; cases e; go_simp; try rfl
      · simp only [Act.put, List.setIfInBounds_toArray, List.set_cons_succ, List.set_cons_zero]; try rfl
      refine flowe_take 20 (v := ?_) (a' := ?_) hps rfl (by kernel_rfl) rfl ?_ ?_ ?_
      rotate_left 2
      · intro w' hk; go_simp; try rfl
      · simp only [Act.put, List.setIfInBounds_toArray, List.set_cons_succ, List.set_cons_zero]; try rfl
      refine flowe_one 21 hps rfl (by kernel_rfl) rfl (wp_next (fun K hK => ?_))
      go_simp
      have kp := (Keep.refl (fun x => x = gL) wr.drew).setCell (p := ⟨gL, qi, none⟩) (.inl rfl) (.slice a7 512 c7)
      refine hK _ _ (flow_step kk ?_ ?_)
      · first | exact kp | exact Keep.refl _ _ | exact (Keep.refl _ _).alloc _
      clear kk hK; try clear kp
      intro kk
      refine flowe_done hps (by kernel_rfl) ?_
      have KK := Lib.hid kk
      clear kk
      go_wp2
      exact ⟨⟨k + 1, s3, by omega, by go_num, HP.out, hs3, HST.out, HKP.out.trans KK.out, HIN.out⟩, by simp [intOf]; omega⟩
    · obtain rfl : k = it.length := by omega
      have hd0 : D.wait.drop it.length = [] := List.drop_of_length_le (by omega)
      rw [hd0, standL_nil] at hst
      have f1 := hR.row.frozen 1
      have HR := Lib.hid hR; have HST := Lib.hid hst; have HKP := Lib.hid hkp; have HIN := Lib.hid hin
      clear hR hst hkp hin hd0
      go_wp2
      go_ret
      have r := HR.out.row.set 1 (.slice none 0 0)
      have ks := (Keep.refl (· = p) wr).setCell (p := ⟨p, 1, none⟩) (.inl rfl) (.slice none 0 0)
      refine ⟨rfl, F, ⟨_, _, s2, [], HR.out.done (D' := D.stand keep) r ks HST.out.symm rfl, HG.out.stand keep, fun k hk => ?_⟩, ?_, fun k hk => .inl hk⟩
      · rcases hk with rfl | hk | hk | ⟨x, hx, hk⟩ | ⟨x, hx, _⟩
        · exact HF.out _ (.inl rfl)
        · exact HF.out _ (.inr (.inl hk))
        · cases hk
        · rcases HIN.out x hx with h | ⟨y, hy, e⟩
          · exact HF.out _ (.inr (.inr (.inr (.inl ⟨x, h, hk⟩))))
          · exact HF.out _ (.inr (.inr (.inr (.inr ⟨y, hy, by rw [← e]; exact hk⟩))))
        · cases hx
      · exact (HKP.out.mono fun x _ e => HF.out _ (.inr (.inl (by rw [e]; rfl)))).trans (ks.mono fun x _ e => HF.out _ (.inl e))
set_option maxHeartbeats 4000000 in
theorem rd_Boot (w : World) (p : Nat) (D : Dk) (F : Nat → Prop) (h : RdRep w p D F) (hmany : D.wait.length ≤ 1000000) (ka : Option Addr) (kn kc : Nat) (kl : List Bool) (hkb : Ts w ka kn kc kl) (hkF : ∀ q, ka = some q → 0 < kl.length → ¬ F q.block) :
    Calls Try.prog 56 #[.pointer (some ⟨p, 0, none⟩), .slice ka kn kc] w fun e w' => e = .returned (.tuple #[]) ∧ RdTo p (D.boot kl) F w w' := by
  obtain ⟨vL, vW, ss, it, h, hg, hF⟩ := h
  obtain ⟨aL, cL, rfl, hcL, hrL⟩ := h.formL
  obtain ⟨aW, cW, rfl, hcW, hrW⟩ := h.formW
  obtain ⟨hl, hlw⟩ := h.len
  have hm := hg.many
  have hl0 : 0 < ss.length := by omega
  obtain ⟨gL, rfl, _⟩ := own_cell2 h.ownL 0 (ss[0]'hl0).2 (by simp [hl0])
  obtain ⟨keep, hkeep⟩ : ∃ keep : Nat → Bool, keep = fun k => kl.getD k false := ⟨_, rfl⟩
  have hkn := ts_len hkb
  subst hkn
  have hkg : ∀ q, ka = some q → 0 < kl.length → ¬ q.block = gL := fun q h1 h2 e => hkF q h1 h2 (hF _ (.inr (.inl (by rw [e]; rfl))))
  have HKB := Lib.hid hkb; have HKG := Lib.hid hkg
  have H := Lib.hid h; have HG := Lib.hid hg; have HF := Lib.hid hF; have HK := Lib.hid hkeep
  have hpg : ¬ p = gL := fun e => own_row_ne h.ownL h.row (by decide) (p := p) (by rw [e]; rfl)
  clear h hg hF hkeep hkb hkF hkg
  go_enter Try.func56, Try.ntmps56
  go_wp2
  go_loopw [4] (fun v wr => ∃ (k : Nat) (s2 : List (List UInt8 × Value)), k ≤ it.length ∧ v = .int .i64 k ∧ RdAt wr p { D with L := s2.map (·.1) } (.slice (some ⟨gL, 0, none⟩) ss.length cL) (.slice aW it.length cW) s2 it ∧ s2.length = ss.length ∧ standL (D.wait.drop k) keep k (s2.map (·.1)) = standL D.wait keep 0 D.L ∧ Keep (· = gL) w wr ∧ ∀ x ∈ s2, x ∈ ss ∨ ∃ y ∈ it, x.2 = y.v) (fun v _ => it.length - (intOf v).toNat)
  case atStart =>
    have h := H.out
    refine ⟨0, ss, Nat.zero_le _, rfl, ?_, rfl, by rw [← h.secs]; rfl, .refl _ _, fun x hx => .inl hx⟩
    rw [← h.secs]; exact h
  case round =>
    obtain ⟨k, s2, hk, rfl, hR, hs2, hst, hkp, hin⟩ := hrel
    have q1 : wr.cell? ⟨p, 1, none⟩ = some (.slice aW it.length cW) := hR.row.cell 1
    by_cases hlt : k < it.length
    · have hwk : D.wait.drop k = (it[k].i, it[k].b) :: D.wait.drop (k + 1) := by
        have hk2 : k < D.wait.length := by omega
        rw [List.drop_eq_getElem_cons hk2]
        congr 1
        simp [H.out.wait, Wt.of]
      rw [hwk, standL_cons] at hst
      by_cases hkl : k < kl.length
      · have hkx := ts_keep2 HKB.out hkp fun q h1 h2 => HKG.out q h1 h2
        obtain ⟨kb, ko, hkae, hkc⟩ := Sl.cells hkx k (.bool (keep k)) (by rw [HK.out]; simp [List.getElem?_eq_getElem hkl, List.getD])
        subst hkae
        clear hkx
        cases hkk : keep k with
        | true =>
          rw [hkk] at hkc
          rw [hkk, if_pos rfl] at hst
          clear hwk
          obtain ⟨t1, t2⟩ := wt_at it k hlt
          obtain ⟨gW, rfl, u1⟩ := own_cell3 hR.ownW _ _ t1
          obtain ⟨_, e2, u2⟩ := own_cell3 hR.ownW _ _ t2
          cases e2
          have hWL : ¬ gW = gL := fun e => own_type_ne hR.ownW hR.ownL (by decide) (k := gW) rfl (by rw [e]; rfl)
          have hw0 := HG.out.waits (it[k].i, it[k].b) (by rw [H.out.wait]; exact List.mem_map.2 ⟨it[k], List.getElem_mem hlt, rfl⟩)
          simp only at hw0
          have hq : it[k].i < s2.length := by omega
          have hput := RdAt.put hR.drew hq it[k] (List.getElem_mem hlt)
          have hset : (s2.map (·.1)).set it[k].i it[k].b = (s2.set it[k].i (it[k].b, it[k].v)).map (·.1) := by rw [List.map_set]
          rw [hset] at hst
          have hin2 : ∀ x ∈ s2.set it[k].i (it[k].b, it[k].v), x ∈ ss ∨ ∃ y ∈ it, x.2 = y.v := fun x hx => by
            rcases List.mem_or_eq_of_mem_set hx with hx | rfl
            · exact hin x hx
            · exact .inr ⟨it[k], List.getElem_mem hlt, rfl⟩
          have hf0 := own_thaw hR.drew.ownL it[k].i
          obtain ⟨cur, hcur⟩ : ∃ u, wr.drew.cell? ⟨gL, it[k].i, none⟩ = some u := by
            obtain ⟨_, e, hc⟩ := own_cell3 hR.drew.ownL it[k].i s2[it[k].i].2 (by simp [hq])
            cases e; exact ⟨_, hc⟩
          have hrow := hR.row.drew
          have hW := own_drew hR.ownW
          have hi128 : it[k].i < 128 := by omega
          have hiss : it[k].i < ss.length := by omega
          have HP := Lib.hid hput; have HST := Lib.hid hst; have HIN := Lib.hid hin2; have HKP := Lib.hid hkp; have HW := Lib.hid hW; have HR := Lib.hid hrow
          have hs3 : (s2.set it[k].i (it[k].b, it[k].v)).length = ss.length := by rw [List.length_set]; exact hs2
          generalize s2.set it[k].i (it[k].b, it[k].v) = s3 at *
          have T1 := Lib.hid t1; have T2 := Lib.hid t2
          generalize it[k].i = qi at *
          obtain ⟨a7, c7, hv7, _⟩ := own_some1 (H.out.items it[k] (List.getElem_mem hlt))
          generalize it[k].v = qv at *
          subst hv7
          clear hput hst hin2 hin hkp hR hset hW hrow t1 t2 hw0
          go_wp2
          refine flowe_begin (F := fun x => x = gL) hmixed 22 rfl (by repeat (first | exact ps_body | refine ps_then ?_ | refine ps_block ?_)) (fun hps => ?_)
          simp only [List.replicate]
          have kk := (Keep.refl (fun x => x = gL) (wr)).drew
          refine flowe_take 0 (v := ?_) (a' := ?_) hps rfl (by kernel_rfl) rfl ?_ ?_ ?_
          rotate_left 2
          · intro w' hk; go_simp; try rfl
          · simp only [Act.put, List.setIfInBounds_toArray, List.set_cons_succ, List.set_cons_zero]; try rfl
          refine flowe_take 1 (v := ?_) (a' := ?_) hps rfl (by kernel_rfl) rfl ?_ ?_ ?_
          rotate_left 2
          · intro w' hk; go_simp; try rfl
          · simp only [Act.put, List.setIfInBounds_toArray, List.set_cons_succ, List.set_cons_zero]; try rfl
          refine flowe_take 2 (v := ?_) (a' := ?_) hps rfl (by kernel_rfl) rfl ?_ ?_ ?_
          rotate_left 2
          · intro w' hk; go_simp; try rfl
          · simp only [Act.put, List.setIfInBounds_toArray, List.set_cons_succ, List.set_cons_zero]; try rfl
          refine flowe_take 3 (v := ?_) (a' := ?_) hps rfl (by kernel_rfl) rfl ?_ ?_ ?_
          rotate_left 2
          · intro w' hk; have hc := (HR.out.keep hk hpg).cell 0; simp only [List.getElem?_cons_zero] at hc; go_simp; try rfl
          · simp only [Act.put, List.setIfInBounds_toArray, List.set_cons_succ, List.set_cons_zero]; try rfl
          refine flowe_take 4 (v := ?_) (a' := ?_) hps rfl (by kernel_rfl) rfl ?_ ?_ ?_
          rotate_left 2
          · intro w' hk; go_simp; try rfl
          · simp only [Act.put, List.setIfInBounds_toArray, List.set_cons_succ, List.set_cons_zero]; try rfl
          refine flowe_take 5 (v := ?_) (a' := ?_) hps rfl (by kernel_rfl) rfl ?_ ?_ ?_
          rotate_left 2
          · intro w' hk; go_simp; try rfl
          · simp only [Act.put, List.setIfInBounds_toArray, List.set_cons_succ, List.set_cons_zero]; try rfl
          refine flowe_take 6 (v := ?_) (a' := ?_) hps rfl (by kernel_rfl) rfl ?_ ?_ ?_
          rotate_left 2
          · intro w' hk; go_simp; try rfl
          · simp only [Act.put, List.setIfInBounds_toArray, List.set_cons_succ, List.set_cons_zero]; try rfl
          refine flowe_take 7 (v := ?_) (a' := ?_) hps rfl (by kernel_rfl) rfl ?_ ?_ ?_
          rotate_left 2
          · intro w' hk; have hc := (HR.out.keep hk hpg).cell 1; simp only [List.getElem?_cons_succ, List.getElem?_cons_zero] at hc; go_simp; try rfl
          · simp only [Act.put, List.setIfInBounds_toArray, List.set_cons_succ, List.set_cons_zero]; try rfl
          refine flowe_take 8 (v := ?_) (a' := ?_) hps rfl (by kernel_rfl) rfl ?_ ?_ ?_
          rotate_left 2
          · intro w' hk; go_simp; try rfl
          · simp only [Act.put, List.setIfInBounds_toArray, List.set_cons_succ, List.set_cons_zero]; try rfl
          refine flowe_take 9 (v := ?_) (a' := ?_) hps rfl (by kernel_rfl) rfl ?_ ?_ ?_
          rotate_left 2
          · intro w' hk; go_simp; try rfl
          · simp only [Act.put, List.setIfInBounds_toArray, List.set_cons_succ, List.set_cons_zero]; try rfl
          refine flowe_take 10 (v := ?_) (a' := ?_) hps rfl (by kernel_rfl) rfl ?_ ?_ ?_
          rotate_left 2
          · intro w' hk; go_simp; try rfl
          · simp only [Act.put, List.setIfInBounds_toArray, List.set_cons_succ, List.set_cons_zero]; try rfl
          refine flowe_take 11 (v := ?_) (a' := ?_) hps rfl (by kernel_rfl) rfl ?_ ?_ ?_
          rotate_left 2
          · intro w' hk; obtain ⟨_, e, hc⟩ := own_cell2 (own_kept HW.out hk fun x hx e => hWL (by cases hx; exact e)) _ _ T1.out; cases e; go_simp; try rfl
          · simp only [Act.put, List.setIfInBounds_toArray, List.set_cons_succ, List.set_cons_zero]; try rfl
          refine flowe_take 12 (v := ?_) (a' := ?_) hps rfl (by kernel_rfl) rfl ?_ ?_ ?_
          rotate_left 2
          · intro w' hk; go_simp; try rfl
          · simp only [Act.put, List.setIfInBounds_toArray, List.set_cons_succ, List.set_cons_zero]; try rfl
          refine flowe_take 13 (v := ?_) (a' := ?_) hps rfl (by kernel_rfl) rfl ?_ ?_ ?_
          rotate_left 2
          · intro w' hk; go_simp; try rfl
          · simp only [Act.put, List.setIfInBounds_toArray, List.set_cons_succ, List.set_cons_zero]; try rfl
          refine flowe_take 14 (v := ?_) (a' := ?_) hps rfl (by kernel_rfl) rfl ?_ ?_ ?_
          rotate_left 2
          · intro w' hk; go_simp; try rfl
          · simp only [Act.put, List.setIfInBounds_toArray, List.set_cons_succ, List.set_cons_zero]; try rfl
          refine flowe_take 15 (v := ?_) (a' := ?_) hps rfl (by kernel_rfl) rfl ?_ ?_ ?_
          rotate_left 2
          · intro w' hk; have hc := (HR.out.keep hk hpg).cell 1; simp only [List.getElem?_cons_succ, List.getElem?_cons_zero] at hc; go_simp; try rfl
          · simp only [Act.put, List.setIfInBounds_toArray, List.set_cons_succ, List.set_cons_zero]; try rfl
          refine flowe_take 16 (v := ?_) (a' := ?_) hps rfl (by kernel_rfl) rfl ?_ ?_ ?_
          rotate_left 2
          · intro w' hk; go_simp; try rfl
          · simp only [Act.put, List.setIfInBounds_toArray, List.set_cons_succ, List.set_cons_zero]; try rfl
          refine flowe_take 17 (v := ?_) (a' := ?_) hps rfl (by kernel_rfl) rfl ?_ ?_ ?_
          rotate_left 2
          · intro w' hk; go_simp; try rfl
          · simp only [Act.put, List.setIfInBounds_toArray, List.set_cons_succ, List.set_cons_zero]; try rfl
          refine flowe_take 18 (v := ?_) (a' := ?_) hps rfl (by kernel_rfl) rfl ?_ ?_ ?_
          rotate_left 2
          · intro w' hk; go_simp; try rfl
          · simp only [Act.put, List.setIfInBounds_toArray, List.set_cons_succ, List.set_cons_zero]; try rfl
          refine flowe_take 19 (v := ?_) (a' := ?_) hps rfl (by kernel_rfl) rfl ?_ ?_ ?_
          rotate_left 2
          · intro w' hk; obtain ⟨_, e, hc⟩ := own_cell2 (own_kept HW.out hk fun x hx e => hWL (by cases hx; exact e)) _ _ T2.out; cases e; go_simp; try rfl
          · simp only [Act.put, List.setIfInBounds_toArray, List.set_cons_succ, List.set_cons_zero]; try rfl
          refine flowe_take 20 (v := ?_) (a' := ?_) hps rfl (by kernel_rfl) rfl ?_ ?_ ?_
          rotate_left 2
          · intro w' hk; go_simp; try rfl
          · simp only [Act.put, List.setIfInBounds_toArray, List.set_cons_succ, List.set_cons_zero]; try rfl
          refine flowe_one 21 hps rfl (by kernel_rfl) rfl (wp_next (fun K hK => ?_))
          go_simp
          have kp := (Keep.refl (fun x => x = gL) wr.drew).setCell (p := ⟨gL, qi, none⟩) (.inl rfl) (.slice a7 512 c7)
          refine hK _ _ (flow_step kk ?_ ?_)
          · first | exact kp | exact Keep.refl _ _ | exact (Keep.refl _ _).alloc _
          clear kk hK; try clear kp
          intro kk
          refine flowe_done hps (by kernel_rfl) ?_
          have KK := Lib.hid kk
          clear kk
          go_wp2
          exact ⟨⟨k + 1, s3, by omega, by go_num, HP.out, hs3, HST.out, HKP.out.trans KK.out, HIN.out⟩, by simp [intOf]; omega⟩
        | false =>
          rw [hkk] at hkc
          rw [hkk, if_neg (by decide)] at hst
          have HR2 := Lib.hid hR; have HST := Lib.hid hst; have HKP := Lib.hid hkp; have HIN := Lib.hid hin
          clear hR hst hkp hin hwk
          go_wp2
          exact ⟨⟨k + 1, s2, by omega, by go_num, HR2.out, hs2, HST.out, HKP.out, HIN.out⟩, by simp [intOf]; omega⟩
      · have hkk : keep k = false := by rw [HK.out]; simp [List.getD, List.getElem?_eq_none (Nat.le_of_not_lt hkl)]
        have hkd : decide ((k : Int) < (kl.length : Int)) = false := by rw [decide_eq_false_iff_not]; omega
        rw [hkk, if_neg (by decide)] at hst
        have HR2 := Lib.hid hR; have HST := Lib.hid hst; have HKP := Lib.hid hkp; have HIN := Lib.hid hin
        clear hR hst hkp hin hwk
        go_wp2
        exact ⟨⟨k + 1, s2, by omega, by go_num, HR2.out, hs2, HST.out, HKP.out, HIN.out⟩, by simp [intOf]; omega⟩
    · obtain rfl : k = it.length := by omega
      have hd0 : D.wait.drop it.length = [] := List.drop_of_length_le (by omega)
      rw [hd0, standL_nil] at hst
      have f1 := hR.row.frozen 1
      have f2 := hR.row.frozen 2
      have f3 := hR.row.frozen 3
      have q2 : wr.cell? ⟨p, 2, none⟩ = some (.bool D.off) := hR.row.cell 2
      have q3 : wr.cell? ⟨p, 3, none⟩ = some (.int .i64 D.left) := hR.row.cell 3
      have HR := Lib.hid hR; have HST := Lib.hid hst; have HKP := Lib.hid hkp; have HIN := Lib.hid hin
      clear hR hst hkp hin hd0
      go_wp2
      go_end0
      have r := ((HR.out.row.set 1 (.slice none 0 0)).set 2 (.bool false)).set 3 (.int .i64 (-1))
      have ks := (((Keep.refl (· = p) wr).setCell (p := ⟨p, 1, none⟩) (.inl rfl) (.slice none 0 0)).setCell (p := ⟨p, 2, none⟩) (.inl rfl) (.bool false)).setCell (p := ⟨p, 3, none⟩) (.inl rfl) (.int .i64 (-1))
      have hstk := HST.out.symm
      rw [HK.out] at hstk
      refine ⟨rfl, F, ⟨_, _, s2, [], HR.out.done (D' := D.boot kl) r ks hstk rfl, HG.out.boot kl, fun k hk => ?_⟩, ?_, fun k hk => .inl hk⟩
      · rcases hk with rfl | hk | hk | ⟨x, hx, hk⟩ | ⟨x, hx, _⟩
        · exact HF.out _ (.inl rfl)
        · exact HF.out _ (.inr (.inl hk))
        · cases hk
        · rcases HIN.out x hx with h | ⟨y, hy, e⟩
          · exact HF.out _ (.inr (.inr (.inr (.inl ⟨x, h, hk⟩))))
          · exact HF.out _ (.inr (.inr (.inr (.inr ⟨y, hy, by rw [← e]; exact hk⟩))))
        · cases hx
      · exact (HKP.out.mono fun x _ e => HF.out _ (.inr (.inl (by rw [e]; rfl)))).trans (ks.mono fun x _ e => HF.out _ (.inl e))
end Go.Proofs.Ytjijniillehfoaa
