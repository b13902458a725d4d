/- Texts of the proof of 'CheckTells', part 6: words on memory, contracts of functions, plain laws. No condition. -/
import Derived.Test.YtjijniillehfoaaMgCheckTells5
import Derived.ProofKit
import Derived.OpenShut
/- Is an arena right: the program's free and Check. -/
namespace Go.Own
theorem freeKeys_snoc (L : List Blk) (x : Blk) : (freeOf (L ++ [x])).map keyOf' = (freeOf L).map keyOf' ++ (if x.used then [] else [keyOf' x]) := by
  unfold freeOf
  rw [List.filter_append, List.map_append]
  cases hu : x.used <;> simp [hu]
end Go.Own
namespace Go.Proofs.Ytjijniillehfoaa
open Go Go.RowKit Go.Own
set_option linter.unusedVariables false
set_option maxRecDepth 100000
section
variable {B : Nat} {w0 w : World} {l : List Ob} {i p bs cp : Nat} {b : List UInt8}
/-- What free tells. -/
def FreR (B : Nat) (w0 : World) (l : List Ob) (L : List Blk) (v : Value) (r : Bool) (w' : World) : Prop :=
  (r = true → Apart L ∧ ∃ g, v = .map (some g) ∧ St B w0 w' (MpO g ((freeOf L).map keyOf') :: l)) ∧ (r = false → ¬ Apart L ∧ St B w0 w' l)
set_option maxHeartbeats 16000000 in
theorem chk_free (h : St B w0 w l) {a : Option Addr} {c : Nat} {L : List Blk} (hi : l[i]? = some (BlsO (.slice a L.length c) L)) (hW : walkB b = some L) (hsm : b.length ≤ 16384) :
    Calls Try.prog 182 #[.slice a L.length c] w fun e w' => ∃ v r, e = .returned (.tuple #[v, .bool r]) ∧ FreR B w0 l L v r w' := by
  have hLs := walk_len hW hsm
  obtain ⟨hlen, ht⟩ := (walkB_tile b L).1 hW
  have hoffs := ht.offs
  have hmem : ∀ x ∈ L, x.off ≤ 16384 ∧ x.size ≤ 16384 ∧ isSize x.size = true := fun x hx => by
    have h1 := ht.mem hx; have h2 := blkAt_some h1.2.1
    exact ⟨by omega, by omega, blkAt_isSize h1.2.1⟩
  have H0 := Lib.hid (mp_make h); have HI := Lib.hid hi; have HM := Lib.hid hmem; have HO := Lib.hid hoffs
  have hmk : (Instr.makeMap mpT none).run Try.prog w = .ok (.map (some w.heap.size)) (w.alloc (.map #[] 0)) := run_makeMap _ _
  generalize w.alloc (.map #[] 0) = w1 at *
  generalize w.heap.size = g at *
  clear h hi hmem hoffs ht hW
  go_enter Try.func182, Try.ntmps182
  go_wp2
  go_loopw [10] (fun vi wr => ∃ k : Nat, k ≤ L.length ∧ vi = .int .i64 k ∧ Apart (L.take k) ∧ St B w0 wr (MpO g ((freeOf (L.take k)).map keyOf') :: l)) (fun vi _ => L.length - (intOf vi).toNat)
  case atStart => exact ⟨0, Nat.zero_le _, rfl, trivial, H0.out⟩
  case round =>
    obtain ⟨k, hk, rfl, hAp, hS⟩ := hrel
    clear H0
    by_cases hlt : k < L.length
    · have d2 : decide ((k : Int) < (L.length : Int)) = true := decide_eq_true (by omega)
      obtain ⟨bb, bo, rfl, hr⟩ := bl_at (bls_sl hS (i := i + 1) HI.out).2 k hlt
      have hprev : ∀ w', St B w0 w' (MpO g ((freeOf (L.take k)).map keyOf') :: l) → ∀ j, k = j + 1 → ∃ hj : j < L.length, w'.cell? ⟨bb, bo + j * 3 + 2, none⟩ = some (.bool L[j].used) := fun w' hS' j hj => by
        have hj2 : j < L.length := by omega
        obtain ⟨bb2, bo2, e2, hr2⟩ := bl_at (bls_sl hS' (i := i + 1) HI.out).2 j hj2
        cases e2
        exact ⟨hj2, (bl_cells hr2).2.2⟩
      have hstep := fun hn => Apart.step hlt hAp hn
      have hnot : ∀ j, (hj : k = j + 1) → (hj2 : j < L.length) → L[j].used = false → L[k].used = false → ¬ Apart L := fun j hj hj2 h1 h2 => by
        subst hj; exact Apart.not hlt h1 h2
      have hsn := freeKeys_snoc (L.take k) L[k]
      rw [← List.take_succ_eq_append_getElem hlt] at hsn
      have hxm := HM.out L[k] (List.getElem_mem hlt)
      have hnk : L[k].used = false → keyOf' L[k] ∉ (freeOf (L.take k)).map keyOf' := fun _ hmm => by
        obtain ⟨y, hy, e⟩ := List.mem_map.1 hmm
        have hy := (mem_freeOf.1 hy).1
        have hp := HO.out
        rw [← List.take_append_drop k L] at hp
        have hd : L[k] ∈ L.drop k := by rw [List.drop_eq_getElem_cons hlt]; exact List.mem_cons_self ..
        exact (List.pairwise_append.1 hp).2.2 y hy _ hd (congrArg Prod.fst e)
      generalize L[k] = x at *
      generalize hks : (freeOf (L.take k)).map keyOf' = ks at *
      have HS := Lib.hid hS; have HST := Lib.hid hstep; have HSN := Lib.hid hsn; have HPREV := Lib.hid hprev; have HR := Lib.hid hr; have HNOT := Lib.hid hnot
      clear hS hr hstep hsn hAp hprev hnot hks
      cases hu : x.used with
      | true =>
        have hst : Apart (L.take (k + 1)) := HST.out fun _ _ _ => .inr hu
        have hsn : (freeOf (L.take (k + 1))).map keyOf' = ks := by rw [HSN.out, hu]; simp
        have HA := Lib.hid hst; have HQ := Lib.hid hsn
        clear hst hsn hnk
        go_wp2_with (first | (refine bl_mid rfl _ rfl bb (bo + k * 3) rfl x HR.out ?_) | (refine bk_alloc HS.out rfl rfl ?_; intro g4 w4 h4; have T4 := Lib.hid h4; clear h4) | (refine bk_store T4.out 0 rfl rfl _ _ rfl rfl x.off x.size true rfl ?_; intro w5 h5; have T5 := Lib.hid h5; clear h5 T4; have k2 : w5.cell? ⟨g4, 2, none⟩ = some (.bool true) := (T5.out.row (i := 0) rfl).cell 2))
        exact ⟨⟨k + 1, hlt, by go_num, HA.out, by rw [HQ.out]; exact T5.out.tail⟩, by simp [intOf]; omega⟩
      | false =>
        have hq2 : x.off ≤ 65536 ∧ clsN x.size ≤ 65536 := ⟨by omega, by have := clsN_lt22 hxm.2.2; omega⟩
        have hnk := hnk hu
        have hsn : (freeOf (L.take (k + 1))).map keyOf' = ks ++ [(x.off, clsN x.size)] := by rw [HSN.out, hu]; rfl
        have hcy := cls_size hxm.2.2
        have hC : cls x.size = ((clsN x.size : Nat) : Int) := by unfold clsN; omega
        have KC : Hid (∀ w, _) := Lib.hid fun w => class_Class w (x.size : Int) (by omega) (by omega)
        rw [hC] at KC
        unfold keyOf' at hnk
        have HQ := Lib.hid hsn; have HNK := Lib.hid hnk; have HQ2 := Lib.hid hq2
        generalize clsN x.size = cz at *
        have fin : Apart (L.take (k + 1)) → ∀ w', St B w0 w' (MpO g (ks ++ [(x.off, cz)]) :: l) → ∃ k_1 : Nat, k_1 ≤ L.length ∧ Value.int .i64 ((k + 1 : Nat) : Int) = .int .i64 k_1 ∧ Apart (L.take k_1) ∧ St B w0 w' (MpO g ((freeOf (L.take k_1)).map keyOf') :: l) :=
          fun hA w' hw => ⟨k + 1, hlt, rfl, hA, by rw [HQ.out]; exact hw⟩
        have FIN := Lib.hid fin
        clear hsn hnk hq2 hC hcy fin
        have go : ∀ (hok : Apart (L.take (k + 1))), True := fun _ => trivial
        clear go
        by_cases hk0 : k = 0
        · subst hk0
          have HA := Lib.hid (HST.out fun j hj _ => by omega)
          go_wp2_with (first | (refine bl_mid rfl _ rfl bb (bo + 0 * 3) rfl x HR.out ?_) | (refine bk_alloc HS.out rfl rfl ?_; intro g4 w4 h4; have T4 := Lib.hid h4; clear h4) | (refine bk_store T4.out 0 rfl rfl _ _ rfl rfl x.off x.size false rfl ?_; intro w5 h5; have T5 := Lib.hid h5; clear h5 T4; have k2 : w5.cell? ⟨g4, 2, none⟩ = some (.bool false) := (T5.out.row (i := 0) rfl).cell 2))
          clear k2
          refine flows_begin (S := fun w' => ∃ ks', St B w0 w' (BkO g4 x.off x.size false :: MpO g ks' :: l)) hmixed 8 rfl (by repeat (first | with_reducible refine ps_then ?_ | with_reducible refine ps_block ?_ | with_reducible exact ps_body | refine ps_then ?_ | refine ps_block ?_ | exact ps_body)) ⟨_, T5.out.drew⟩ (fun hps => ?_)
          simp only [List.replicate]
          refine flows_take 0 (v := ?_) (a' := ?_) hps rfl (by kernel_rfl) rfl ?_ ?_ ?_
          rotate_left 2
          · intro w' hk; go_simp; try rfl
          · simp only [Act.put, List.setIfInBounds_toArray, List.set_cons_succ, List.set_cons_zero]; try rfl
          refine flows_take 1 (v := ?_) (a' := ?_) hps rfl (by kernel_rfl) rfl ?_ ?_ ?_
          rotate_left 2
          · intro w' hk; go_simp; try rfl
          · simp only [Act.put, List.setIfInBounds_toArray, List.set_cons_succ, List.set_cons_zero]; try rfl
          refine flows_take 2 (v := ?_) (a' := ?_) hps rfl (by kernel_rfl) rfl ?_ ?_ ?_
          rotate_left 2
          · intro w' hk; obtain ⟨_, hq⟩ := hk; have c0 := (hq.row (i := 0) rfl).cell 0; simp only [List.getElem?_cons_succ, List.getElem?_cons_zero] at c0; go_simp; try rfl
          · simp only [Act.put, List.setIfInBounds_toArray, List.set_cons_succ, List.set_cons_zero]; try rfl
          refine flows_take 3 (v := ?_) (a' := ?_) hps rfl (by kernel_rfl) rfl ?_ ?_ ?_
          rotate_left 2
          · intro w' hk; go_simp; try rfl
          · simp only [Act.put, List.setIfInBounds_toArray, List.set_cons_succ, List.set_cons_zero]; try rfl
          refine flows_take 4 (v := ?_) (a' := ?_) hps rfl (by kernel_rfl) rfl ?_ ?_ ?_
          rotate_left 2
          · intro w' hk; obtain ⟨_, hq⟩ := hk; have c0 := (hq.row (i := 0) rfl).cell 1; simp only [List.getElem?_cons_succ, List.getElem?_cons_zero] at c0; go_simp; try rfl
          · simp only [Act.put, List.setIfInBounds_toArray, List.set_cons_succ, List.set_cons_zero]; try rfl
          refine flows_one 5 hps rfl (by kernel_rfl) rfl (wp_next (fun K hK => ?_))
          go_simp
          with_reducible refine (KC.out _).mono ?_
          rintro e w' ⟨rfl, rfl⟩
          have kp : ∃ ks', St B w0 w5.drew (BkO g4 x.off x.size false :: MpO g ks' :: l) := ⟨_, T5.out.drew⟩
          refine hK _ _ ⟨kp, ?_⟩
          clear kp hK
          refine flows_take 6 (v := ?_) (a' := ?_) hps rfl (by kernel_rfl) rfl ?_ ?_ ?_
          rotate_left 2
          · intro w' hk; go_simp; try rfl
          · simp only [Act.put, List.setIfInBounds_toArray, List.set_cons_succ, List.set_cons_zero]; try rfl
          refine flows_one 7 hps rfl (by kernel_rfl) rfl (wp_next (fun K hK => ?_))
          refine mp_update_at T5.out.drew 1 rfl (q := (x.off, cz)) _ _ _ rfl rfl rfl rfl HQ2.out HNK.out ?_
          intro w6 h6
          have T6 := Lib.hid h6
          have kp : ∃ ks', St B w0 w6 (BkO g4 x.off x.size false :: MpO g ks' :: l) := ⟨_, h6⟩
          clear h6
          refine hK _ _ ⟨kp, ?_⟩
          clear kp hK
          refine flows_done hps (by kernel_rfl) ?_
          go_wp2
          exact ⟨FIN.out HA.out _ T6.out.tail, by simp [intOf]; omega⟩
        · obtain ⟨j, rfl⟩ : ∃ j, k = j + 1 := ⟨k - 1, by omega⟩
          have u2 : IntKind.i64.wrap (((j + 1 : Nat) : Int) - 1) = (j : Int) := by rw [IntWalk.i64_in _ (by omega)]; omega
          have u3 : IntKind.i64.wrap ((j : Int) + 1 - 1) = (j : Int) := by rw [IntWalk.i64_in _ (by omega)]; omega
          obtain ⟨hj, _⟩ := HPREV.out _ HS.out j rfl
          have hst := fun (hh : L[j].used = true) => HST.out (fun j' hj' hj2 => by cases hj'; exact .inl hh)
          have hnot := fun (hh : L[j].used = false) => HNOT.out j rfl hj hh hu
          have hpv : ∀ w', St B w0 w' (MpO g ks :: l) → w'.cell? ⟨bb, bo + j * 3 + 2, none⟩ = some (.bool L[j].used) := fun w' hw => (HPREV.out w' hw j rfl).2
          generalize L[j] = y at *
          have HST2 := Lib.hid hst; have HNOT2 := Lib.hid hnot; have HPV := Lib.hid hpv
          clear hst hnot hpv
          cases hy : y.used with
          | true =>
            have HA := Lib.hid (HST2.out hy)
            rw [hy] at HPV
            clear hy
            go_wp2_with (first | (refine bl_mid rfl _ rfl bb (bo + (j + 1) * 3) rfl x HR.out ?_) | (refine bk_alloc HS.out rfl rfl ?_; intro g4 w4 h4; have T4 := Lib.hid h4; clear h4) | (refine bk_store T4.out 0 rfl rfl _ _ rfl rfl x.off x.size false rfl ?_; intro w5 h5; have T5 := Lib.hid h5; clear h5 T4; have k2 : w5.cell? ⟨g4, 2, none⟩ = some (.bool false) := (T5.out.row (i := 0) rfl).cell 2; have k3 := HPV.out w5 T5.out.tail))
            clear k2 k3
            refine flows_begin (S := fun w' => ∃ ks', St B w0 w' (BkO g4 x.off x.size false :: MpO g ks' :: l)) hmixed 8 rfl (by repeat (first | with_reducible refine ps_then ?_ | with_reducible refine ps_block ?_ | with_reducible exact ps_body | refine ps_then ?_ | refine ps_block ?_ | exact ps_body)) ⟨_, T5.out.drew⟩ (fun hps => ?_)
            simp only [List.replicate]
            refine flows_take 0 (v := ?_) (a' := ?_) hps rfl (by kernel_rfl) rfl ?_ ?_ ?_
            rotate_left 2
            · intro w' hk; go_simp; try rfl
            · simp only [Act.put, List.setIfInBounds_toArray, List.set_cons_succ, List.set_cons_zero]; try rfl
            refine flows_take 1 (v := ?_) (a' := ?_) hps rfl (by kernel_rfl) rfl ?_ ?_ ?_
            rotate_left 2
            · intro w' hk; go_simp; try rfl
            · simp only [Act.put, List.setIfInBounds_toArray, List.set_cons_succ, List.set_cons_zero]; try rfl
            refine flows_take 2 (v := ?_) (a' := ?_) hps rfl (by kernel_rfl) rfl ?_ ?_ ?_
            rotate_left 2
            · intro w' hk; obtain ⟨_, hq⟩ := hk; have c0 := (hq.row (i := 0) rfl).cell 0; simp only [List.getElem?_cons_succ, List.getElem?_cons_zero] at c0; go_simp; try rfl
            · simp only [Act.put, List.setIfInBounds_toArray, List.set_cons_succ, List.set_cons_zero]; try rfl
            refine flows_take 3 (v := ?_) (a' := ?_) hps rfl (by kernel_rfl) rfl ?_ ?_ ?_
            rotate_left 2
            · intro w' hk; go_simp; try rfl
            · simp only [Act.put, List.setIfInBounds_toArray, List.set_cons_succ, List.set_cons_zero]; try rfl
            refine flows_take 4 (v := ?_) (a' := ?_) hps rfl (by kernel_rfl) rfl ?_ ?_ ?_
            rotate_left 2
            · intro w' hk; obtain ⟨_, hq⟩ := hk; have c0 := (hq.row (i := 0) rfl).cell 1; simp only [List.getElem?_cons_succ, List.getElem?_cons_zero] at c0; go_simp; try rfl
            · simp only [Act.put, List.setIfInBounds_toArray, List.set_cons_succ, List.set_cons_zero]; try rfl
            refine flows_one 5 hps rfl (by kernel_rfl) rfl (wp_next (fun K hK => ?_))
            go_simp
            with_reducible refine (KC.out _).mono ?_
            rintro e w' ⟨rfl, rfl⟩
            have kp : ∃ ks', St B w0 w5.drew (BkO g4 x.off x.size false :: MpO g ks' :: l) := ⟨_, T5.out.drew⟩
            refine hK _ _ ⟨kp, ?_⟩
            clear kp hK
            refine flows_take 6 (v := ?_) (a' := ?_) hps rfl (by kernel_rfl) rfl ?_ ?_ ?_
            rotate_left 2
            · intro w' hk; go_simp; try rfl
            · simp only [Act.put, List.setIfInBounds_toArray, List.set_cons_succ, List.set_cons_zero]; try rfl
            refine flows_one 7 hps rfl (by kernel_rfl) rfl (wp_next (fun K hK => ?_))
            refine mp_update_at T5.out.drew 1 rfl (q := (x.off, cz)) _ _ _ rfl rfl rfl rfl HQ2.out HNK.out ?_
            intro w6 h6
            have T6 := Lib.hid h6
            have kp : ∃ ks', St B w0 w6 (BkO g4 x.off x.size false :: MpO g ks' :: l) := ⟨_, h6⟩
            clear h6
            refine hK _ _ ⟨kp, ?_⟩
            clear kp hK
            refine flows_done hps (by kernel_rfl) ?_
            go_wp2
            exact ⟨FIN.out HA.out _ T6.out.tail, by simp [intOf]; omega⟩
          | false =>
            have HN := Lib.hid (HNOT2.out hy)
            rw [hy] at HPV
            clear hy
            go_wp2_with (first | (refine bl_mid rfl _ rfl bb (bo + (j + 1) * 3) rfl x HR.out ?_) | (refine bk_alloc HS.out rfl rfl ?_; intro g4 w4 h4; have T4 := Lib.hid h4; clear h4) | (refine bk_store T4.out 0 rfl rfl _ _ rfl rfl x.off x.size false rfl ?_; intro w5 h5; have T5 := Lib.hid h5; clear h5 T4; have k2 : w5.cell? ⟨g4, 2, none⟩ = some (.bool false) := (T5.out.row (i := 0) rfl).cell 2; have k3 := HPV.out w5 T5.out.tail))
            go_ret2
            exact ⟨_, false, rfl, fun e => (by cases e), fun _ => ⟨HN.out, T5.out.tail.tail⟩⟩
    · obtain rfl : k = L.length := by omega
      rw [List.take_length] at hAp hS
      have d2 : decide ((L.length : Int) < (L.length : Int)) = false := decide_eq_false (by omega)
      have HAP := Lib.hid hAp; have HS := Lib.hid hS
      clear hAp hS
      go_wp2
      go_ret2
      exact ⟨_, true, rfl, fun _ => ⟨HAP.out, g, rfl, HS.out⟩, fun e => by cases e⟩
end
end Go.Proofs.Ytjijniillehfoaa

/- Is an arena right: the program's Check. -/
namespace Go.Proofs.Ytjijniillehfoaa
open Go Go.RowKit Go.Own
set_option linter.unusedVariables false
set_option maxRecDepth 100000
section
variable {B : Nat} {w0 w : World} {l : List Ob} {i p bs cp : Nat} {b : List UInt8}
/-- What Check tells, as an error. -/
def chkV (r : Bool) : Value := if r then .nilIface else .iface 183 (.int .i64 3)
theorem shr22 (V : Nat) (h : V < 18446744073709551616) : ((V : Int) / 4194304 != 0) = decide (4194304 ≤ V) := by
  rw [Bool.eq_iff_iff, bne_iff_ne, decide_eq_true_iff]; omega
set_option maxHeartbeats 16000000 in
theorem chk_Check (h : St B w0 w (l.set i (ArT p ⟨bs, cp, b⟩))) (hil : i < l.length) :
    Calls Try.prog 83 #[arP p] w fun e w' => ∃ r, e = .returned (chkV r) ∧ ChkR b r ∧ St B w0 w' (l.set i (ArT p ⟨bs, cp, b⟩)) := by
  obtain ⟨hsm, hbs⟩ := ls_small h hil
  have kw := blk_Walk h (at_set hil _)
  simp only at kw
  have H := Lib.hid h; have HSM := Lib.hid hsm; have HIL := Lib.hid hil
  clear h
  cases hW : walkB b with
  | none =>
    have hr : ¬ IsRight b := fun ⟨bs, ls, hR, _⟩ => by rw [hR.walk] at hW; cases hW
    have HR := Lib.hid (chk_no hr)
    rw [hW, show errW none = .iface 183 (.int .i64 3) from rfl] at kw
    have KW := Lib.hid kw
    clear kw hr hW hil
    go_enter Try.func83, Try.ntmps83
    go_wp2_with fail
    have kc := KW.out
    with_reducible refine kc.mono ?_
    clear kc
    rintro e w3 ⟨v3', rfl, t3⟩
    have T3 := Lib.hid t3
    clear t3
    go_wp2
    go_ret
    exact ⟨false, rfl, HR.out, T3.out.tail⟩
  | some L =>
    rw [hW, show errW (some L) = .nilIface from rfl, Option.getD_some] at kw
    have hLs := walk_len hW hsm
    have KW := Lib.hid kw; have HW := Lib.hid hW
    have htile := ((walkB_tile b L).1 hW).2
    have h184 : 184 ≤ b.length := ((walkB_tile b L).1 hW).1
    have hV := numAt_lt b 0
    have HTI := Lib.hid htile
    have kn := fun w' (l' : List Ob) (h' : St B w0 w' l') (j : Nat) (hj : l'[j]? = some (ArT p ⟨bs, cp, b⟩)) => ar_WordAt h' hj (bs : Int) 0 (by show (bs : Int) = (bs : Int) + 0; omega) (by show 0 + 8 ≤ b.length; omega)
    obtain ⟨V, hVe⟩ : ∃ V, V = numAt b 0 := ⟨_, rfl⟩
    simp only at kn
    rw [← hVe] at hV kn
    have KN := Lib.hid kn; have HVE := Lib.hid hVe
    clear kw hW kn hVe h184 htile
    have hset : (l.set i (ArT p ⟨bs, cp, b⟩))[i]? = some (ArT p ⟨bs, cp, b⟩) := at_set hil _
    have HSET := Lib.hid hset
    generalize l.set i (ArT p ⟨bs, cp, b⟩) = la at *
    clear hset hil
    go_enter Try.func83, Try.ntmps83
    go_wp2_with fail
    have kc := KW.out
    with_reducible refine kc.mono ?_
    clear kc
    rintro e w3 ⟨v3', rfl, t3⟩
    have T3 := Lib.hid t3
    clear t3
    obtain ⟨a3, c3, e3, _⟩ := bls_slice T3.out (i := 0) rfl
    subst e3
    go_wp2_with fail
    have kc := chk_free T3.out (i := 0) rfl HW.out HSM.out
    with_reducible refine kc.mono ?_
    clear kc
    rintro e w4 ⟨vm', rm', rfl, t4⟩
    have T4 := Lib.hid t4
    clear t4
    go_wp2_with fail
    have kc := ar_Base (i := i + 1) (l := BlsO (.slice a3 L.length c3) L :: la) (A := ⟨bs, cp, b⟩) (by cases rm'; exact (T4.out.2 rfl).2; obtain ⟨_, _, _, q⟩ := T4.out.1 rfl; exact q.tail) HSET.out
    with_reducible refine kc.mono ?_
    clear kc
    rintro e w' ⟨rfl, rfl⟩
    go_wp2_with fail
    have kc := KN.out w4 (BlsO (.slice a3 L.length c3) L :: la) (by cases rm'; exact (T4.out.2 rfl).2; obtain ⟨_, _, _, q⟩ := T4.out.1 rfl; exact q.tail) (i + 1) HSET.out
    with_reducible refine kc.mono ?_
    clear kc
    rintro e w' ⟨rfl, rfl⟩
    cases hrm : rm' with
    | false =>
      subst hrm
      obtain ⟨hnap, hs4⟩ := T4.out.2 rfl
      have hr : ¬ IsRight b := fun ⟨bs, ls, hR, hap⟩ => by
        have e := hR.walk
        rw [HW.out] at e
        cases e
        exact hnap hap
      have HR := Lib.hid (chk_no hr); have S4 := Lib.hid hs4
      clear hnap hr hs4 T4
      go_wp2
      go_ret
      exact ⟨false, rfl, HR.out, S4.out.tail⟩
    | true =>
      subst hrm
      obtain ⟨hap, g, hvm, hs4⟩ := T4.out.1 rfl
      subst hvm
      have HAP := Lib.hid hap; have S4 := Lib.hid hs4
      clear hap hs4 T4
      have hsh := shr22 V hV
      by_cases hV2 : 4194304 ≤ V
      · rw [decide_eq_true hV2] at hsh
        have hr : ¬ IsRight b := fun ⟨bs, ls, hR, _⟩ => by have := hR.lists.w0; rw [← HVE.out] at this; omega
        have HR := Lib.hid (chk_no hr)
        clear hr
        go_wp2
        go_ret
        exact ⟨false, rfl, HR.out, S4.out.tail.tail⟩
      rw [decide_eq_false hV2] at hsh
      go_wp2
      clear hsh
      go_loopw [46] (fun vc wr => ∃ (c : Nat) (ls : Nat → List Nat), c ≤ 22 ∧ vc = .int .i64 c ∧ (∀ d, d < c → allB b d = some (ls d)) ∧ (∀ d, d < c → ∀ k, (hk : k < (ls d).length) → ((ls d)[k], d) ∈ leftK L ls d ((ls d).take k)) ∧ St B w0 wr (MpO g (leftK L ls c []) :: BlsO (.slice a3 L.length c3) L :: la)) (fun vc _ => 22 - (intOf vc).toNat)
      case atStart => exact ⟨0, fun _ => [], Nat.zero_le _, rfl, fun d hd => by omega, fun d hd => by omega, by rw [leftK_start]; exact S4.out⟩
      case round =>
        obtain ⟨c, ls, hc, rfl, hall, hin, hS⟩ := hrel
        clear S4
        by_cases hlt : c < 22
        · have d2 : decide ((c : Int) < 22) = true := decide_eq_true (by omega)
          have ka := ls_All (l := MpO g (leftK L ls c []) :: BlsO (.slice a3 L.length c3) L :: la) (i := i + 2) (bs := bs) (cp := cp) (p := p) (b := b) (by rw [set_same (l := MpO g (leftK L ls c []) :: BlsO (.slice a3 L.length c3) L :: la) (i := i + 2) HSET.out]; exact hS) (by have := (List.getElem?_eq_some_iff.1 HSET.out).1; simp only [List.length_cons]; omega) c hlt
          rw [set_same (i := i + 2) (l := MpO g (leftK L ls c []) :: BlsO (.slice a3 L.length c3) L :: la) HSET.out] at ka
          cases hA : allB b c with
          | none =>
            have hr : ¬ IsRight b := fun ⟨bs, ls, hR, hap⟩ => by
              have e := hR.all hlt
              rw [hA] at e; cases e
            have HR := Lib.hid (chk_no hr)
            rw [hA, show errA none = .iface 183 (.int .i64 3) from rfl] at ka
            have KA := Lib.hid ka
            clear hS ka hA hr hall hin
            go_wp2_with fail
            have kc := KA.out
            with_reducible refine kc.mono ?_
            clear kc
            rintro e w4 ⟨v4', rfl, t4⟩
            have T4 := Lib.hid t4
            clear t4
            go_wp2
            go_ret
            exact ⟨false, rfl, HR.out, T4.out.tail.tail.tail⟩
          | some A =>
            rw [hA, show errA (some A) = .nilIface from rfl, Option.getD_some] at ka
            obtain ⟨ls', hls'⟩ : ∃ ls' : Nat → List Nat, ls' = fun d => if d = c then A else ls d := ⟨_, rfl⟩
            have hc1 : ls' c = A := by rw [hls']; simp
            have hc2 : ∀ d, d < c → ls d = ls' d := fun d hd => by rw [hls']; simp; omega
            rw [leftK_congr hc2] at ka
            have hall' : ∀ d, d < c + 1 → allB b d = some (ls' d) := fun d hd => by
              by_cases hdc : d = c
              · subst hdc; rw [hc1]; exact hA
              · rw [← hc2 d (by omega)]; exact hall d (by omega)
            have hin' : ∀ d, d < c → ∀ k, (hk : k < (ls' d).length) → ((ls' d)[k], d) ∈ leftK L ls' d ((ls' d).take k) := fun d hd k hk => by
              have h1 : k < (ls d).length := by rw [hc2 d hd]; exact hk
              have := hin d hd k h1
              rw [leftK_congr (ls' := ls') fun e he => hc2 e (by omega)] at this
              have e := hc2 d hd
              simp only [e] at this
              exact this
            have hkey : ∀ k, (hk : k < A.length) → A[k] ≤ 65536 := fun k hk => by
              obtain ⟨x, hx, _⟩ := memberB_some ((allB_inv hA).2.2.2 _ (List.getElem_mem hk)).2
              have := blkAt_some hx; have := HSM.out; omega
            have hAr : ∀ bs ls'', Right b bs ls'' → bs = L ∧ ls'' c = A ∧ ∀ d, d < c → ls'' d = ls' d := fun bs ls'' hR => by
              have e1 := hR.walk
              rw [HW.out] at e1
              cases e1
              refine ⟨rfl, ?_, fun d hd => ?_⟩
              · have e2 := hR.all hlt
                rw [hA] at e2
                exact (Option.some.inj e2).symm
              · have e2 := hR.all (c := d) (by omega)
                rw [hall' d (by omega)] at e2
                exact (Option.some.inj e2).symm
            have hAl : A.length ≤ 1000000 := by
              have := hA
              unfold allB at this
              split at this
              · cases this
              · split at this
                · cases this
                · have := (allFrom_inv _ _ _ _ this).2.2; omega
            have KA := Lib.hid ka; have HJ := Lib.hid (And.intro hall' (And.intro hin' (And.intro hc1 (And.intro hkey hAr))))
            clear hS ka hA hall' hin' hc1 hc2 hkey hAr hls' hall hin
            go_wp2_with fail
            have kc := KA.out
            with_reducible refine kc.mono ?_
            clear kc
            rintro e w4 ⟨v4', rfl, t4⟩
            have T4 := Lib.hid t4
            clear t4
            obtain ⟨a4, c4, e4, hs4⟩ := ints_slice T4.out (i := 0) rfl
            subst e4
            clear hs4
            go_wp2
            clear d2
            go_loopw [60] (fun vk wr => ∃ k : Nat, k ≤ A.length ∧ vk = .int .i64 k ∧ (∀ j, j < k → (hj : j < A.length) → (A[j], c) ∈ leftK L ls' c (A.take j)) ∧ St B w0 wr (IntsO (.slice a4 A.length c4) A :: MpO g (leftK L ls' c (A.take k)) :: BlsO (.slice a3 L.length c3) L :: la)) (fun vk _ => A.length - (intOf vk).toNat)
            case atStart => exact ⟨0, Nat.zero_le _, rfl, fun j hj => by omega, T4.out⟩
            case round =>
              obtain ⟨k, hk, rfl, hok, hS⟩ := hrel
              clear T4
              by_cases hltk : k < A.length
              · have d2 : decide ((k : Int) < (A.length : Int)) = true := decide_eq_true (by omega)
                obtain ⟨b2, o2, rfl, c2⟩ := ints_at hS (i := 0) rfl k hltk
                have hq := HJ.out.2.2.2.1 k hltk
                have hex : (A[k], c) ∉ leftK L ls' c (A.take k) → ¬ IsRight b := fun hn ⟨bs, ls'', hR, _⟩ => by
                  obtain ⟨rfl, e2, e3⟩ := HJ.out.2.2.2.2 bs ls'' hR
                  have := hR.left hlt (k := k) (by rw [e2]; exact hltk)
                  rw [leftK_congr e3] at this
                  simp only [e2] at this
                  exact hn this
                have hnx : (leftK L ls' c (A.take k)).filter (· ≠ (A[k], c)) = leftK L ls' c (A.take (k + 1)) := by
                  rw [leftK_erase HTI.out, List.take_succ_eq_append_getElem hltk]
                have hnd : (leftK L ls' c (A.take k)).Nodup := leftK_nodup HTI.out
                have hstep : (A[k], c) ∈ leftK L ls' c (A.take k) → ∀ j, j < k + 1 → (hj : j < A.length) → (A[j], c) ∈ leftK L ls' c (A.take j) := fun hm j hj hj2 => by
                  by_cases hjk : j = k
                  · subst hjk; exact hm
                  · exact hok j (by omega) hj2
                generalize A[k] = O at *
                generalize leftK L ls' c (A.take k) = lf at *
                generalize hlf2 : leftK L ls' c (A.take (k + 1)) = lf2 at *
                have HX := Lib.hid (And.intro hex (And.intro hnx hnd)); have HST := Lib.hid hstep
                have HS := Lib.hid hS; have HLF2 := Lib.hid hlf2
                clear hex hnx hnd hok hS hstep hlf2
                by_cases hm : (O, c) ∈ lf
                · have HM := Lib.hid hm
                  have dm : decide ((O, c) ∈ lf) = true := decide_eq_true hm
                  clear hm
                  go_wp2_with (first | (refine mp_lookup_st HS.out 1 rfl rfl _ _ rfl rfl (q := (O, c)) rfl ⟨hq, by omega⟩ ?_; rw [dm]) | (refine mp_delete_st HS.out 1 rfl rfl _ _ rfl rfl (q := (O, c)) rfl ⟨hq, by omega⟩ HX.out.2.2 HM.out ?_; intro w6 h6; rw [HX.out.2.1] at h6; have H6 := Lib.hid h6; clear h6))
                  exact ⟨⟨k + 1, hltk, by go_num, HST.out HM.out, by rw [HLF2.out]; exact H6.out⟩, by simp [intOf]; omega⟩
                · have HR := Lib.hid (chk_no (HX.out.1 hm))
                  have dm : decide ((O, c) ∈ lf) = false := decide_eq_false hm
                  clear hm
                  go_wp2_with (refine mp_lookup_st HS.out 1 rfl rfl _ _ rfl rfl (q := (O, c)) rfl ⟨hq, by omega⟩ ?_; rw [dm])
                  go_ret
                  exact ⟨false, rfl, HR.out, HS.out.tail.tail.tail⟩
              · obtain rfl : k = A.length := by omega
                rw [List.take_length] at hS
                have d2 : decide ((A.length : Int) < (A.length : Int)) = false := decide_eq_false (by omega)
                have HS := Lib.hid hS; have HOK := Lib.hid hok
                clear hS hok
                go_wp2
                refine ⟨⟨c + 1, ls', hlt, by go_num, HJ.out.1, fun d hd k hk => ?_, ?_⟩, by simp [intOf]; omega⟩
                · by_cases hdc : d = c
                  · subst hdc
                    have e := HJ.out.2.2.1
                    simp only [e] at hk ⊢
                    exact HOK.out k hk hk
                  · exact HJ.out.2.1 d (by omega) k hk
                · rw [← leftK_next, HJ.out.2.2.1]; exact HS.out.tail
        · obtain rfl : c = 22 := by omega
          have d2 : decide ((22 : Int) < 22) = false := by decide
          have hfin : leftK L ls 22 [] = [] → IsRight b := fun hn => ⟨L, ls, right_struck HSM.out HW.out (by rw [← HVE.out]; omega) hall hin hn, HAP.out⟩
          have hbad : leftK L ls 22 [] ≠ [] → ¬ IsRight b := fun hn ⟨bs, ls'', hR, _⟩ => by
            have e1 := hR.walk
            rw [HW.out] at e1
            cases e1
            refine hn ?_
            rw [leftK_congr (ls' := ls'') fun d hd => by
              have e2 := hR.all hd
              rw [hall d hd] at e2
              exact Option.some.inj e2]
            exact hR.leftNil
          generalize leftK L ls 22 [] = lf at *
          have HS := Lib.hid hS; have HF := Lib.hid (And.intro hfin hbad)
          clear hS hfin hbad hall hin
          cases lf with
          | nil =>
            have HR := Lib.hid (chk_yes (HF.out.1 rfl))
            go_wp2_with (at_len; refine mp_len_st HS.out 0 rfl rfl _ rfl rfl ?_; rw [show ((([] : List (Nat × Nat)).length : Nat) : Int) = 0 from rfl])
            go_ret
            exact .inr ⟨rfl, HR.out, HS.out.tail.tail⟩
          | cons q r =>
            have HR := Lib.hid (chk_no (HF.out.2 (by simp)))
            obtain ⟨N, hn⟩ : ∃ N, (q :: r).length = N := ⟨_, rfl⟩
            have hN : 0 < N := by rw [← hn, List.length_cons]; omega
            have d3 : decide (0 < N) = true := decide_eq_true hN
            go_wp2_with (at_len; refine mp_len_st HS.out 0 rfl rfl _ rfl rfl ?_; rw [hn])
            go_ret
            exact ⟨false, rfl, HR.out, HS.out.tail.tail⟩
end
end Go.Proofs.Ytjijniillehfoaa

/- Layer 11: the example; whether an arena of any bytes is right. -/
namespace Go.Own
theorem numAt_zero {n t : Nat} (h : t + 8 ≤ n) : numAt (List.replicate n (0 : UInt8)) t = 0 := by
  unfold numAt
  rw [List.length_replicate, if_pos h, List.drop_replicate, List.take_replicate, show min 8 (n - t) = 8 by omega]
  rfl
theorem right_zero : IsRight (List.replicate 184 (0 : UInt8)) := by
  refine ⟨[], fun _ => [], ⟨by rw [List.length_replicate]; decide, by rw [List.length_replicate]; rfl, ?_, fun y hy => by cases hy⟩, trivial⟩
  refine ⟨?_, fun c hc => ?_, fun c hc => ⟨0, rfl, ?_⟩, fun c hc o ho => (by cases ho), fun c hc => List.nodup_nil⟩
  · rw [numAt_zero (by decide)]; decide
  · rw [numAt_zero (by decide)]; unfold bitAt; simp
  · rw [numAt_zero (by unfold headO; omega)]
/-- With another first byte, and nothing else: it is none. -/
theorem not_right_one : ¬ IsRight ([1] ++ List.replicate 183 (0 : UInt8)) := by
  rintro ⟨bs, ls, hR, _⟩
  have hd : ∀ s, ([1] ++ List.replicate 183 (0 : UInt8)).drop (s + 1) = List.replicate (183 - s) 0 := fun s => by
    show (List.replicate 183 (0 : UInt8)).drop s = _
    rw [List.drop_replicate]
  have hl : ([1] ++ List.replicate 183 (0 : UInt8)).length = 184 := by rw [List.length_append, List.length_replicate]; rfl
  have hn : ∀ t, 1 ≤ t → t + 8 ≤ 184 → numAt ([1] ++ List.replicate 183 (0 : UInt8)) t = 0 := fun t h1 h2 => by
    obtain ⟨s, rfl⟩ : ∃ s, t = s + 1 := ⟨t - 1, by omega⟩
    unfold numAt
    rw [hl, if_pos h2, hd, List.take_replicate, show min 8 (183 - s) = 8 by omega]
    rfl
  have h0 : numAt ([1] ++ List.replicate 183 (0 : UInt8)) 0 = 1 := by
    unfold numAt
    rw [hl, if_pos (by decide), List.drop_zero, List.take_append, List.take_replicate]
    rfl
  have hb := hR.lists.bit 0 (by decide)
  rw [h0] at hb
  have hh := hR.lists.headNe hR.good (c := 0) (by decide)
  rw [hn (headO 0) (by decide) (by decide)] at hh
  have : ls 0 = [] := Classical.byContradiction fun h => (hh.2 h) rfl
  rw [this] at hb
  revert hb; decide
theorem putI_length (b : List UInt8) (o : Int) : ((putI b o).getD b).length = b.length := by
  unfold putI
  split
  · unfold putB
    cases hf : freeB b o.toNat with
    | none => rfl
    | some c =>
      obtain ⟨x, _, _, _, hc, h1, h2, h3⟩ := freeB_some hf
      have hho : headO c ≤ 176 := by unfold headO; omega
      simp only
      split
      · rfl
      · rename_i hh
        have l1 : (layAt (layAt b (o.toNat + 8) (numAt b (headO c))) (o.toNat + 16) 0).length = b.length := by rw [layAt_length _ _ _ (by rw [layAt_length _ _ _ (by omega)]; omega), layAt_length _ _ _ (by omega)]
        have l2 : (if numAt b (headO c) = 0 then layAt (layAt b (o.toNat + 8) (numAt b (headO c))) (o.toNat + 16) 0 else layAt (layAt (layAt b (o.toNat + 8) (numAt b (headO c))) (o.toNat + 16) 0) (numAt b (headO c) + 16) o.toNat).length = b.length := by
          split
          · exact l1
          · rename_i h0
            have hm : memberB b (numAt b (headO c)) c = true := by
              cases hmm : memberB b (numAt b (headO c)) c with
              | true => rfl
              | false => exact absurd (Or.inr ⟨h0, hmm⟩) hh
            have := memberB_at hm
            rw [layAt_length _ _ _ (by rw [l1]; omega), l1]
        show (markB _ c).length = _
        unfold markB
        have l3 : (layAt (if numAt b (headO c) = 0 then layAt (layAt b (o.toNat + 8) (numAt b (headO c))) (o.toNat + 16) 0 else layAt (layAt (layAt b (o.toNat + 8) (numAt b (headO c))) (o.toNat + 16) 0) (numAt b (headO c) + 16) o.toNat) (headO c) o.toNat).length = b.length := by rw [layAt_length _ _ _ (by rw [l2]; omega), l2]
        rw [layAt_length _ _ _ (by rw [l3]; omega), l3]
  · rfl
end Go.Own
namespace Go.Proofs.Ytjijniillehfoaa
open Go Go.RowKit Go.Own
set_option linter.unusedVariables false
set_option maxRecDepth 100000
theorem chkV_true {b : List UInt8} {r : Bool} (h : ChkR b r) (hb : IsRight b) : r = true := h.2 hb
theorem chkV_false {b : List UInt8} {r : Bool} (h : ChkR b r) (hb : ¬ IsRight b) : r = false := by
  cases r with
  | false => rfl
  | true => exact absurd (h.1 rfl) hb
/-- 'append([]byte{1}, make([]byte, n)...)'. -/
theorem one_zeros {B : Nat} {w0 w : World} {l : List Ob} {ops : Array Oper} {rest : List Oper} {o : Oper} {a : Act} {Q : Exit → Act → World → Prop} (hgd : Region.wanted o (yielded ops a.tmps) = true) (s x : Operand)
    (ho : o.op = .call { callee := .builtin .append, args := #[s, x], argTypes := #[31, 3] }) (h : St B w0 w l) (hs : a.eval s = .slice (some ⟨w.heap.size, 0, none⟩) 1 1) (n : Nat) (m : Int) (hm : m = n) (hn : n ≤ 100000) (hx : a.eval x = .int .i64 m)
    (hk : ∀ v' w', St B w0 w' (OwB v' ([1] ++ List.replicate n 0) :: l) → wpList Try.prog ops Q rest (a.put o.dst v') w') : wpList Try.prog ops Q (o :: rest) a (w.alloc (.cells #[.int .u8 1] 5 (0, 0))) := by
  have own0 : (w.alloc (.cells #[.int .u8 1] 5 (0, 0))).ownsRow w.heap.size 5 1 (.slice (some ⟨w.heap.size, 0, none⟩) 1 1) 1 [.int .u8 1] := own_lit 5 [.int .u8 1] (Nat.le_refl _) rfl (by decide)
  have h1 := h.addOwn ((Below.refl _ _).alloc (Nat.le_refl _) (.cells #[.int .u8 1] 5 (0, 0))) own0
  refine app_zeros_own hgd s x 31 3 ho 0 5 (.int .u8 0) 1 Try.underlying31 Try.underlying3 info_u8 rfl rfl (by decide) _ _ _ hs (h1.own (i := 0) rfl) _ m n hm hx (by omega) (Nat.zero_le _) fun v' w' g1 g2 g3 => hk v' w' ?_
  have h2 := h1.ownTo (i := 0) rfl w' v' _ _ g1 g2 g3
  unfold OwB
  rw [List.length_append, List.length_replicate, List.map_append, List.map_replicate]
  exact h2
set_option maxHeartbeats 4000000 in
theorem up11 (w : World) : Calls Try.prog 80 #[] w fun e w' => e = .returned (.bool true) ∧ Below w.heap.size w w' := by
  have T0 := Lib.hid (St.start w)
  obtain ⟨g, W, hmk, t1⟩ := mk_st T0.out (184 : Int) 184 rfl (by decide)
  have hz : (List.replicate 184 (0 : UInt8)).length = 184 := List.length_replicate ..
  have hR := right_zero
  have hN := not_right_one
  have hol : ([1] ++ List.replicate 183 (0 : UInt8)).length = 184 := by rw [List.length_append, List.length_replicate]; rfl
  generalize List.replicate 184 (0 : UInt8) = z at *
  have hz1 := fun (w1 : World) (l1 : List Ob) (h1 : St w.heap.size w w1 l1) => h1
  generalize hrep : [1] ++ List.replicate 183 (0 : UInt8) = z1 at *
  have HR := Lib.hid hR; have HN := Lib.hid hN; have HZ := Lib.hid hz; have T1 := Lib.hid t1; have HOL := Lib.hid hol; have HREP := Lib.hid hrep
  clear hR hN hz t1 hz1 hol hrep
  go_enter Try.func80, Try.ntmps80
  go_wp2_with fail
  have kc := ar_Arena T1.out 16 16 rfl 1024 1024 rfl (by decide) (by decide) (by decide) (by decide) (some ⟨g, 0, none⟩) 184 184 z (T1.out.bsV (i := 0) rfl) (by rw [HZ.out]; decide)
  with_reducible refine kc.mono ?_
  clear kc
  rintro e w2 ⟨q, rfl, t2⟩
  have T2 := Lib.hid t2
  clear t2
  go_wp2_with (at_builtin; go_must (refine one_zeros rfl (.tmp 5) (.const (.int .i64 183)) rfl T2.out rfl 183 183 rfl (by decide) rfl ?_; intro v3 w3 h3; rw [HREP.out] at h3; have T3 := Lib.hid h3; clear h3))
  obtain ⟨a3, c3, rfl, h4⟩ := T3.out.ownAs
  rw [HOL.out] at h4
  have T4 := Lib.hid h4
  clear h4
  rw [HOL.out]
  have kc := ar_Arena T4.out 16 16 rfl 1024 1024 rfl (by decide) (by decide) (by decide) (by decide) a3 184 c3 z1 (T4.out.as (i := 0) rfl) (by rw [HOL.out]; decide)
  with_reducible refine kc.mono ?_
  clear kc
  rintro e w5 ⟨q2, rfl, t5⟩
  have T5 := Lib.hid t5
  clear t5
  have T6 := Lib.hid (show St w.heap.size w w5 (([ArT q2 ⟨16, 1024, z1⟩, ArT q ⟨16, 1024, z⟩] : List Ob).set 1 (ArT q ⟨16, 1024, z⟩)) from T5.out.sub (List.Sublist.cons_cons _ (List.Sublist.cons _ (List.Sublist.cons_cons _ (List.nil_sublist _)))))
  clear T5
  go_wp2_with fail
  have kc := chk_Check T6.out (Nat.lt_succ_self 1)
  with_reducible refine kc.mono ?_
  clear kc
  rintro e w7 ⟨r7', rfl, b7', t7⟩
  have T7 := Lib.hid t7
  clear t7
  obtain rfl := chkV_true b7' HR.out
  rw [show chkV true = .nilIface from rfl]
  have T8 := Lib.hid (show St w.heap.size w w7 (([ArT q2 ⟨16, 1024, z1⟩, ArT q ⟨16, 1024, z⟩] : List Ob).set 0 (ArT q2 ⟨16, 1024, z1⟩)) from T7.out)
  clear T7
  go_wp2_with fail
  have kc := chk_Check T8.out (Nat.zero_lt_succ 1)
  with_reducible refine kc.mono ?_
  clear kc
  rintro e w9 ⟨r9', rfl, b9', t9⟩
  have T9 := Lib.hid t9
  clear t9
  obtain rfl := chkV_false b9' HN.out
  rw [show chkV false = .iface 183 (.int .i64 3) from rfl]
  have B9 := Lib.hid T9.out.end
  go_wp2_with fail
  have kc := code_of w9 3 (by decide) (by decide)
  with_reducible refine kc.mono ?_
  clear kc
  rintro e w' ⟨rfl, rfl⟩
  go_wp2
  go_ret
  exact ⟨rfl, B9.out⟩
set_option maxHeartbeats 16000000 in
theorem checkTells (w : World) (n : Int) (la : Option Addr) (ln lc : Nat) (pa : Option Addr) (pn pc : Nat) (hn : (Lit.int .i64 n).wf = true) (hl : Rd w (.sl shLy) [.slice la ln lc]) (hp : Rd w (.sl (.int .i64)) [.slice pa pn pc]) :
    Calls Try.prog 13 #[.int .i64 n, .slice la ln lc, .slice pa pn pc] w (lawOk w) := by
  obtain ⟨ds, hds, hdl, hok⟩ := rd_lys hl
  obtain ⟨ps, hps⟩ := hp.ints
  obtain ⟨n0, n1⟩ := wfI64 hn
  have hpl := hps.len
  subst hpl
  have p1 := Sl.cap hds; have r1 := Sl.room hds; have p2 := Sl.cap hps.1; have r2 := Sl.room hps.1
  have HD := Lib.hid (And.intro hds (And.intro hdl hok)); have HP := Lib.hid hps
  clear hds hdl hok hl hn hp hps
  go_enter Try.func13, Try.ntmps13
  go_wp2_with fail
  refine (up11 w).mono ?_
  rintro e w1 ⟨rfl, bw1⟩
  have T1 := Lib.hid ((St.start w).below bw1)
  clear bw1
  have B2 := Lib.hid T1.out.end
  by_cases h1 : n < 0
  · have d1 : decide (n < 0) = true := decide_eq_true h1
    go_wp2
    go_ret
    exact ⟨rfl, B2.out⟩
  have d1 : decide (n < 0) = false := decide_eq_false h1
  by_cases h2 : 2000 < n
  · have d2 : decide (n > 2000) = true := decide_eq_true h2
    go_wp2
    go_ret
    exact ⟨rfl, B2.out⟩
  have d2 : decide (n > 2000) = false := decide_eq_false (by omega)
  by_cases h3 : 60 < ln
  · have d3 : decide ((ln : Int) > 60) = true := decide_eq_true (by omega)
    go_wp2
    go_ret
    exact ⟨rfl, B2.out⟩
  have d3 : decide ((ln : Int) > 60) = false := decide_eq_false (by omega)
  by_cases h4 : 30 < ps.length
  · have d4 : decide ((ps.length : Int) > 30) = true := decide_eq_true (by omega)
    go_wp2
    go_ret
    exact ⟨rfl, B2.out⟩
  have d4 : decide ((ps.length : Int) > 30) = false := decide_eq_false (by omega)
  obtain ⟨N, hN⟩ := Int.eq_ofNat_of_zero_le (show 0 ≤ n by omega)
  subst hN
  have hN2 : N ≤ 2000 := by omega
  go_wp2_with fail
  have kc := law_LBytes T1.out (N : Int) N rfl hN2 la ln lc ds HD.out.1 HD.out.2.1 HD.out.2.2 (by omega)
  with_reducible refine kc.mono ?_
  clear kc
  rintro e w2 ⟨v2', b', rfl, hb2', t2⟩
  have T2 := Lib.hid t2
  clear t2
  obtain ⟨a2, c2, rfl, h2'⟩ := T2.out
  rw [hb2'] at h2'
  have H2 := Lib.hid h2'; have HB2 := Lib.hid hb2'
  rw [hb2']
  clear h2' d1 d2 d3 d4 h1 h2 h3 T1 T2 hb2' B2
  go_wp2
  go_loopw [8, 9] (fun vb vi wr => ∃ (k : Nat) (b : List UInt8) (a : Option Addr) (c : Nat), k ≤ ps.length ∧ vi = .int .i64 k ∧ b.length = N ∧ vb = .slice a N c ∧ St w.heap.size w wr [AsO a N c b]) (fun _ vi _ => ps.length - (intOf vi).toNat)
  case atStart => exact ⟨0, b', a2, c2, by omega, rfl, HB2.out, rfl, H2.out⟩
  case round =>
    obtain ⟨k, b, a, c, hk, rfl, hb, rfl, hS⟩ := hrel
    clear H2
    have HB := Lib.hid hb; have HBM := Lib.hid (show b.length ≤ 16384 by omega)
    clear hb
    by_cases hlt : k < ps.length
    · have d2 : decide ((k : Int) < (ps.length : Int)) = true := decide_eq_true (by omega)
      obtain ⟨pb, po, rfl, hcp⟩ := HP.out.at k hlt
      have c1 := hS.argCell hcp
      generalize ps[k] = x at *
      have HS := Lib.hid hS
      clear hcp hS
      go_wp2_with fail
      have kc := rl_Put HS.out (i := 0) rfl HBM.out x
      with_reducible refine kc.mono ?_
      clear kc
      rintro e w8 ⟨v8', rfl, t8⟩
      have T8 := Lib.hid t8
      clear t8
      have hyl : ((putI b x).getD b).length = N := by
        have h8 := T8.out
        obtain ⟨a8, c8, _, h9⟩ := h8
        have := putI_length b x
        rw [this, HB.out]
      obtain ⟨a8, c8, rfl, h9⟩ := T8.out
      rw [hyl] at h9
      rw [hyl]
      have H9 := Lib.hid h9.drop2; have HYL := Lib.hid hyl
      clear h9 hyl
      go_wp2
      exact ⟨⟨k + 1, (putI b x).getD b, a8, c8, hlt, by go_num, HYL.out, rfl, H9.out⟩, by simp [intOf]; omega⟩
    · obtain rfl : k = ps.length := by omega
      have d2 : decide ((ps.length : Int) < (ps.length : Int)) = false := decide_eq_false (by omega)
      have HS := Lib.hid hS
      clear hS
      go_wp2
      clear d2
      rename ∀ (a : Act) (w : World), _ → _ => hkeep
      revert hkeep
      repeat (rename ∀ (a : Act) (w : World), _ → _ => hgx; clear hgx)
      repeat (rename Exit → Act → World → Prop => hgx; clear hgx)
      intro hkeep
      go_loopw [8, 10] (fun vb vi wr => ∃ (k : Nat) (b : List UInt8) (a : Option Addr) (c : Nat), k ≤ 2 ∧ vi = .int .i64 k ∧ b.length = N ∧ vb = .slice a N c ∧ St w.heap.size w wr [AsO a N c b]) (fun _ vi _ => 2 - (intOf vi).toNat)
      case atStart => exact ⟨0, b, a, c, by omega, rfl, HB.out, rfl, HS.out⟩
      case round =>
        clear HS HB HBM
        obtain ⟨k, b, a, c, hk, rfl, hb, rfl, hS⟩ := hrel
        by_cases hlt : k < 2
        · have d2 : decide ((k : Int) < 2) = true := decide_eq_true (by omega)
          have hRL := rebuildB_length (b := b) (by omega)
          have HS := Lib.hid hS; have HB := Lib.hid hb; have HBM := Lib.hid (show b.length ≤ 16384 by omega); have HRL := Lib.hid hRL
          clear hS hb hRL
          go_wp2_with fail
          have kc := ar_Arena HS.out 32 32 rfl 16384 16384 rfl (by decide) (by decide) (by decide) (by decide) a _ c b (HS.out.as (i := 0) rfl) (by have := HBM.out; omega)
          with_reducible refine kc.mono ?_
          clear kc
          rintro e w3 ⟨q, rfl, t3⟩
          have T3 := Lib.hid t3
          clear t3
          have T4 := Lib.hid (show St w.heap.size w w3 (([ArT q ⟨32, 16384, b⟩, AsO a N c b] : List Ob).set 0 (ArT q ⟨32, 16384, b⟩)) from T3.out)
          clear T3
          go_wp2_with fail
          have kc := chk_Check T4.out (Nat.zero_lt_succ 1)
          with_reducible refine kc.mono ?_
          clear kc
          rintro e w5 ⟨r5', rfl, b5', t5⟩
          have T5 := Lib.hid t5
          clear t5
          go_wp2_with fail
          have kc := rl_Check T5.out (i := 1) rfl HBM.out
          with_reducible refine kc.mono ?_
          clear kc
          rintro e w6 ⟨r6', rfl, b6', t6⟩
          have T6 := Lib.hid t6
          clear t6
          have hrr : r6' = r5' := by
            cases h5 : r5' with
            | true => exact b6'.2 (b5'.1 h5)
            | false =>
              cases h6 : r6' with
              | false => rfl
              | true => have := b5'.2 (b6'.1 h6); rw [h5] at this; cases this
          subst hrr
          have H6 := Lib.hid (show St w.heap.size w w6 [ArT q ⟨32, 16384, b⟩, AsO a N c b] from T6.out)
          clear T6 T5 T4 b5' b6'
          obtain ⟨va, hva⟩ := H6.out.drew.ar (i := 0) rfl
          have HVA := Lib.hid (show ArA _ q { base := 32, cap := 16384, b := b } va from hva)
          have HB3 := Lib.hid (H6.out.drew.as (i := 1) rfl)
          clear hva
          cases r6' with
          | true =>
            rw [show chkV true = .nilIface from rfl]
            go_wp2
            refine flowe_begin (F := fun _ => False) hmixed 21 rfl (by repeat (first | with_reducible refine ps_then ?_ | with_reducible refine ps_block ?_ | with_reducible exact ps_body | refine ps_then ?_ | refine ps_block ?_ | exact ps_body)) (fun hps => ?_)
            simp only [List.replicate]
            have kk := (Keep.refl (fun _ => False) (w6)).drew
            refine flowe_take 0 (v := ?_) (a' := ?_) hps rfl (by kernel_rfl) rfl ?_ ?_ ?_
            rotate_left 2
            · intro w' hk; go_simp; try rfl
            · simp only [Act.put, List.setIfInBounds_toArray, List.set_cons_succ, List.set_cons_zero]; try rfl
            refine flowe_take 1 (v := ?_) (a' := ?_) hps rfl (by kernel_rfl) rfl ?_ ?_ ?_
            rotate_left 2
            · intro w' hk; go_simp; try rfl
            · simp only [Act.put, List.setIfInBounds_toArray, List.set_cons_succ, List.set_cons_zero]; try rfl
            refine flowe_take 2 (v := ?_) (a' := ?_) hps rfl (by kernel_rfl) rfl ?_ ?_ ?_
            rotate_left 2
            · intro w' hk; go_simp; try rfl
            · simp only [Act.put, List.setIfInBounds_toArray, List.set_cons_succ, List.set_cons_zero]; try rfl
            refine flowe_take 3 (v := ?_) (a' := ?_) hps rfl (by kernel_rfl) rfl ?_ ?_ ?_
            rotate_left 2
            · intro w' hk; go_simp; try rfl
            · simp only [Act.put, List.setIfInBounds_toArray, List.set_cons_succ, List.set_cons_zero]; try rfl
            refine flowe_take 4 (v := ?_) (a' := ?_) hps rfl (by kernel_rfl) rfl ?_ ?_ ?_
            rotate_left 2
            · intro w' hk; go_simp; try rfl
            · simp only [Act.put, List.setIfInBounds_toArray, List.set_cons_succ, List.set_cons_zero]; try rfl
            refine flowe_take 5 (v := ?_) (a' := ?_) hps rfl (by kernel_rfl) rfl ?_ ?_ ?_
            rotate_left 2
            · intro w' hk; go_simp; try rfl
            · simp only [Act.put, List.setIfInBounds_toArray, List.set_cons_succ, List.set_cons_zero]; try rfl
            refine flowe_take 6 (v := ?_) (a' := ?_) hps rfl (by kernel_rfl) rfl ?_ ?_ ?_
            rotate_left 2
            · intro w' hk; go_simp; try rfl
            · simp only [Act.put, List.setIfInBounds_toArray, List.set_cons_succ, List.set_cons_zero]; try rfl
            refine flowe_take 7 (v := ?_) (a' := ?_) hps rfl (by kernel_rfl) rfl ?_ ?_ ?_
            rotate_left 2
            · intro w' hk; go_simp; try rfl
            · simp only [Act.put, List.setIfInBounds_toArray, List.set_cons_succ, List.set_cons_zero]; try rfl
            refine flowe_skip 8 (a' := ?_) hps rfl (by kernel_rfl) rfl ?_ ?_
            rotate_left 1
            · simp only [Act.put, List.setIfInBounds_toArray, List.set_cons_succ, List.set_cons_zero]; try rfl
            refine flowe_skip 9 (a' := ?_) hps rfl (by kernel_rfl) rfl ?_ ?_
            rotate_left 1
            · simp only [Act.put, List.setIfInBounds_toArray, List.set_cons_succ, List.set_cons_zero]; try rfl
            refine flowe_skip 10 (a' := ?_) hps rfl (by kernel_rfl) rfl ?_ ?_
            rotate_left 1
            · simp only [Act.put, List.setIfInBounds_toArray, List.set_cons_succ, List.set_cons_zero]; try rfl
            refine flowe_take 11 (v := ?_) (a' := ?_) hps rfl (by kernel_rfl) rfl ?_ ?_ ?_
            rotate_left 2
            · intro w' hk; go_simp; try rfl
            · simp only [Act.put, List.setIfInBounds_toArray, List.set_cons_succ, List.set_cons_zero]; try rfl
            refine flowe_take 12 (v := ?_) (a' := ?_) hps rfl (by kernel_rfl) rfl ?_ ?_ ?_
            rotate_left 2
            · intro w' hk; go_simp; try rfl
            · simp only [Act.put, List.setIfInBounds_toArray, List.set_cons_succ, List.set_cons_zero]; try rfl
            refine flowe_take 13 (v := ?_) (a' := ?_) hps rfl (by kernel_rfl) rfl ?_ ?_ ?_
            rotate_left 2
            · intro w' hk; go_simp; try rfl
            · simp only [Act.put, List.setIfInBounds_toArray, List.set_cons_succ, List.set_cons_zero]; try rfl
            refine flowe_take 14 (v := ?_) (a' := ?_) hps rfl (by kernel_rfl) rfl ?_ ?_ ?_
            rotate_left 2
            · intro w' hk; go_simp; try rfl
            · simp only [Act.put, List.setIfInBounds_toArray, List.set_cons_succ, List.set_cons_zero]; try rfl
            refine flowe_take 17 (v := ?_) (a' := ?_) hps rfl (by kernel_rfl) rfl ?_ ?_ ?_
            rotate_left 2
            · intro w' hk; go_simp; try rfl
            · simp only [Act.put, List.setIfInBounds_toArray, List.set_cons_succ, List.set_cons_zero]; try rfl
            refine flowe_take 18 (v := ?_) (a' := ?_) hps rfl (by kernel_rfl) rfl ?_ ?_ ?_
            rotate_left 2
            · intro w' hk; have hs := run_s w' (HB3.out.keep hk (fun _ _ h => h)); go_simp; try rfl
            · simp only [Act.put, List.setIfInBounds_toArray, List.set_cons_succ, List.set_cons_zero]; try rfl
            refine flowe_one 15 hps rfl (by kernel_rfl) rfl (wp_next (fun K hK => ?_))
            go_simp
            with_reducible refine (law_Bytes _ q { base := 32, cap := 16384, b := b } va HVA.out).mono ?_
            rintro e w9 ⟨v9, rfl, o9, b9⟩
            have kp := Keep.of_below (F := fun _ => False) b9
            obtain ⟨a9, c9, rfl, _, hb9⟩ := Sl.of_owned o9
            have HB9 := Lib.hid (show Bs w9 a9 b.length c9 b from hb9)
            clear o9 b9 hb9
            refine hK _ _ (flow_step kk ?_ ?_)
            · first | exact kp | exact Keep.refl _ _ | exact (Keep.refl _ _).alloc _
            clear kk hK; try clear kp
            intro kk
            refine flowe_take 16 (v := ?_) (a' := ?_) hps rfl (by kernel_rfl) rfl ?_ ?_ ?_
            rotate_left 2
            · intro w' hk; have hs := run_s w' (HB9.out.keep hk (fun _ _ h => h)); go_simp; try rfl
            · simp only [Act.put, List.setIfInBounds_toArray, List.set_cons_succ, List.set_cons_zero]; try rfl
            refine flowe_take 19 (v := ?_) (a' := ?_) hps rfl (by kernel_rfl) rfl ?_ ?_ ?_
            rotate_left 2
            · intro w' hk; go_simp; try rfl
            · simp only [Act.put, List.setIfInBounds_toArray, List.set_cons_succ, List.set_cons_zero]; try rfl
            refine flowe_take 20 (v := ?_) (a' := ?_) hps rfl (by kernel_rfl) rfl ?_ ?_ ?_
            rotate_left 2
            · intro w' hk; go_simp; try rfl
            · simp only [Act.put, List.setIfInBounds_toArray, List.set_cons_succ, List.set_cons_zero]; try rfl
            refine flowe_done hps (by kernel_rfl) ?_
            have H9 := Lib.hid (H6.out.below (kk.below (Nat.le_refl _) fun _ _ h => h))
            clear kk
            go_wp2_with fail
            have kc := rl_Rebuild H9.out (i := 1) rfl HBM.out
            with_reducible refine kc.mono ?_
            clear kc
            rintro e wx ⟨vx', rfl, tx⟩
            have TX := Lib.hid tx
            clear tx
            obtain ⟨a8, c8, rfl, h8⟩ := TX.out
            rw [HRL.out, HB.out] at h8
            rw [HRL.out, HB.out]
            have H8 := Lib.hid (h8.sub (List.Sublist.cons_cons _ (List.nil_sublist _)))
            clear h8 TX
            go_wp2
            exact ⟨⟨k + 1, (rebuildB b).getD b, a8, c8, by omega, by go_num, by rw [HRL.out, HB.out], rfl, H8.out⟩, by simp [intOf]; omega⟩
          | false =>
            rw [show chkV false = .iface 183 (.int .i64 3) from rfl]
            go_wp2
            refine flowe_begin (F := fun _ => False) hmixed 21 rfl (by repeat (first | with_reducible refine ps_then ?_ | with_reducible refine ps_block ?_ | with_reducible exact ps_body | refine ps_then ?_ | refine ps_block ?_ | exact ps_body)) (fun hps => ?_)
            simp only [List.replicate]
            have kk := (Keep.refl (fun _ => False) (w6)).drew
            refine flowe_take 0 (v := ?_) (a' := ?_) hps rfl (by kernel_rfl) rfl ?_ ?_ ?_
            rotate_left 2
            · intro w' hk; go_simp; try rfl
            · simp only [Act.put, List.setIfInBounds_toArray, List.set_cons_succ, List.set_cons_zero]; try rfl
            refine flowe_take 1 (v := ?_) (a' := ?_) hps rfl (by kernel_rfl) rfl ?_ ?_ ?_
            rotate_left 2
            · intro w' hk; go_simp; try rfl
            · simp only [Act.put, List.setIfInBounds_toArray, List.set_cons_succ, List.set_cons_zero]; try rfl
            refine flowe_take 2 (v := ?_) (a' := ?_) hps rfl (by kernel_rfl) rfl ?_ ?_ ?_
            rotate_left 2
            · intro w' hk; go_simp; try rfl
            · simp only [Act.put, List.setIfInBounds_toArray, List.set_cons_succ, List.set_cons_zero]; try rfl
            refine flowe_take 3 (v := ?_) (a' := ?_) hps rfl (by kernel_rfl) rfl ?_ ?_ ?_
            rotate_left 2
            · intro w' hk; go_simp; try rfl
            · simp only [Act.put, List.setIfInBounds_toArray, List.set_cons_succ, List.set_cons_zero]; try rfl
            refine flowe_take 4 (v := ?_) (a' := ?_) hps rfl (by kernel_rfl) rfl ?_ ?_ ?_
            rotate_left 2
            · intro w' hk; go_simp; try rfl
            · simp only [Act.put, List.setIfInBounds_toArray, List.set_cons_succ, List.set_cons_zero]; try rfl
            refine flowe_take 5 (v := ?_) (a' := ?_) hps rfl (by kernel_rfl) rfl ?_ ?_ ?_
            rotate_left 2
            · intro w' hk; go_simp; try rfl
            · simp only [Act.put, List.setIfInBounds_toArray, List.set_cons_succ, List.set_cons_zero]; try rfl
            refine flowe_take 6 (v := ?_) (a' := ?_) hps rfl (by kernel_rfl) rfl ?_ ?_ ?_
            rotate_left 2
            · intro w' hk; go_simp; try rfl
            · simp only [Act.put, List.setIfInBounds_toArray, List.set_cons_succ, List.set_cons_zero]; try rfl
            refine flowe_take 7 (v := ?_) (a' := ?_) hps rfl (by kernel_rfl) rfl ?_ ?_ ?_
            rotate_left 2
            · intro w' hk; go_simp; try rfl
            · simp only [Act.put, List.setIfInBounds_toArray, List.set_cons_succ, List.set_cons_zero]; try rfl
            refine flowe_take 8 (v := ?_) (a' := ?_) hps rfl (by kernel_rfl) rfl ?_ ?_ ?_
            rotate_left 2
            · intro w' hk; go_simp; try rfl
            · simp only [Act.put, List.setIfInBounds_toArray, List.set_cons_succ, List.set_cons_zero]; try rfl
            refine flowe_one 9 hps rfl (by kernel_rfl) rfl (wp_next (fun K hK => ?_))
            go_simp
            with_reducible refine (code_of _ 3 (by decide) (by decide)).mono ?_
            rintro e w' ⟨rfl, rfl⟩
            refine hK _ _ (flow_step kk ?_ ?_)
            · first | exact kp | exact Keep.refl _ _ | exact (Keep.refl _ _).alloc _
            clear kk hK; try clear kp
            intro kk
            refine flowe_take 10 (v := ?_) (a' := ?_) hps rfl (by kernel_rfl) rfl ?_ ?_ ?_
            rotate_left 2
            · intro w' hk; go_simp; try rfl
            · simp only [Act.put, List.setIfInBounds_toArray, List.set_cons_succ, List.set_cons_zero]; try rfl
            refine flowe_take 11 (v := ?_) (a' := ?_) hps rfl (by kernel_rfl) rfl ?_ ?_ ?_
            rotate_left 2
            · intro w' hk; go_simp; try rfl
            · simp only [Act.put, List.setIfInBounds_toArray, List.set_cons_succ, List.set_cons_zero]; try rfl
            refine flowe_take 12 (v := ?_) (a' := ?_) hps rfl (by kernel_rfl) rfl ?_ ?_ ?_
            rotate_left 2
            · intro w' hk; go_simp; try rfl
            · simp only [Act.put, List.setIfInBounds_toArray, List.set_cons_succ, List.set_cons_zero]; try rfl
            refine flowe_take 13 (v := ?_) (a' := ?_) hps rfl (by kernel_rfl) rfl ?_ ?_ ?_
            rotate_left 2
            · intro w' hk; go_simp; try rfl
            · simp only [Act.put, List.setIfInBounds_toArray, List.set_cons_succ, List.set_cons_zero]; try rfl
            refine flowe_take 14 (v := ?_) (a' := ?_) hps rfl (by kernel_rfl) rfl ?_ ?_ ?_
            rotate_left 2
            · intro w' hk; go_simp; try rfl
            · simp only [Act.put, List.setIfInBounds_toArray, List.set_cons_succ, List.set_cons_zero]; try rfl
            refine flowe_take 17 (v := ?_) (a' := ?_) hps rfl (by kernel_rfl) rfl ?_ ?_ ?_
            rotate_left 2
            · intro w' hk; go_simp; try rfl
            · simp only [Act.put, List.setIfInBounds_toArray, List.set_cons_succ, List.set_cons_zero]; try rfl
            refine flowe_take 18 (v := ?_) (a' := ?_) hps rfl (by kernel_rfl) rfl ?_ ?_ ?_
            rotate_left 2
            · intro w' hk; have hs := run_s w' (HB3.out.keep hk (fun _ _ h => h)); go_simp; try rfl
            · simp only [Act.put, List.setIfInBounds_toArray, List.set_cons_succ, List.set_cons_zero]; try rfl
            refine flowe_one 15 hps rfl (by kernel_rfl) rfl (wp_next (fun K hK => ?_))
            go_simp
            with_reducible refine (law_Bytes _ q { base := 32, cap := 16384, b := b } va HVA.out).mono ?_
            rintro e w9 ⟨v9, rfl, o9, b9⟩
            have kp := Keep.of_below (F := fun _ => False) b9
            obtain ⟨a9, c9, rfl, _, hb9⟩ := Sl.of_owned o9
            have HB9 := Lib.hid (show Bs w9 a9 b.length c9 b from hb9)
            clear o9 b9 hb9
            refine hK _ _ (flow_step kk ?_ ?_)
            · first | exact kp | exact Keep.refl _ _ | exact (Keep.refl _ _).alloc _
            clear kk hK; try clear kp
            intro kk
            refine flowe_take 16 (v := ?_) (a' := ?_) hps rfl (by kernel_rfl) rfl ?_ ?_ ?_
            rotate_left 2
            · intro w' hk; have hs := run_s w' (HB9.out.keep hk (fun _ _ h => h)); go_simp; try rfl
            · simp only [Act.put, List.setIfInBounds_toArray, List.set_cons_succ, List.set_cons_zero]; try rfl
            refine flowe_take 19 (v := ?_) (a' := ?_) hps rfl (by kernel_rfl) rfl ?_ ?_ ?_
            rotate_left 2
            · intro w' hk; go_simp; try rfl
            · simp only [Act.put, List.setIfInBounds_toArray, List.set_cons_succ, List.set_cons_zero]; try rfl
            refine flowe_take 20 (v := ?_) (a' := ?_) hps rfl (by kernel_rfl) rfl ?_ ?_ ?_
            rotate_left 2
            · intro w' hk; go_simp; try rfl
            · simp only [Act.put, List.setIfInBounds_toArray, List.set_cons_succ, List.set_cons_zero]; try rfl
            refine flowe_done hps (by kernel_rfl) ?_
            have H9 := Lib.hid (H6.out.below (kk.below (Nat.le_refl _) fun _ _ h => h))
            clear kk
            go_wp2_with fail
            have kc := rl_Rebuild H9.out (i := 1) rfl HBM.out
            with_reducible refine kc.mono ?_
            clear kc
            rintro e wx ⟨vx', rfl, tx⟩
            have TX := Lib.hid tx
            clear tx
            obtain ⟨a8, c8, rfl, h8⟩ := TX.out
            rw [HRL.out, HB.out] at h8
            rw [HRL.out, HB.out]
            have H8 := Lib.hid (h8.sub (List.Sublist.cons_cons _ (List.nil_sublist _)))
            clear h8 TX
            go_wp2
            exact ⟨⟨k + 1, (rebuildB b).getD b, a8, c8, by omega, by go_num, by rw [HRL.out, HB.out], rfl, H8.out⟩, by simp [intOf]; omega⟩
        · obtain rfl : k = 2 := by omega
          have d2 : decide (((2 : Nat) : Int) < 2) = false := by decide
          have B9 := Lib.hid hS.end
          clear hS
          go_wp2
          go_ret
          exact ⟨rfl, B9.out⟩
end Go.Proofs.Ytjijniillehfoaa

/- What comes in, opened: a slice of bytes as a list; whatever else as a value that reads. -/
namespace Go.Own
open Go Go.RowKit Go.ChangeShapes Go.WideShapes
theorem open_bytes {H : Type} {enc : TypeId × Value → H} {P : Program} {W : World} {t e : TypeId} {a : Option Addr} {len cap : Nat} {d : DataW H} {p : List MemPlace}
    (ht : P.underlying t = some (.slice e)) (he : P.underlying e = some (.int .u8)) (hc : P.cellsOf e = 1)
    (h : DataW.Trod enc P W 0 (fun _ => true) true t (.slice a len cap) d p) : ∃ l, Bs W a len cap l := by
  obtain ⟨fuel, hf⟩ := h
  rcases open_ints ht he hc hf with ⟨hcs, _⟩ | ⟨x, l, c, zs, hcs, _, hl, hm, hz, _, hcell, hwz⟩
  · simp [Value.cells] at hcs
    obtain ⟨rfl, rfl, rfl⟩ := hcs
    exact ⟨[], Bs.nil W⟩
  · simp [Value.cells] at hcs
    obtain ⟨rfl, rfl, rfl⟩ := hcs
    refine ⟨(zs.take len).map fun z => UInt8.ofNat z.toNat, ?_, hl, by unfold maxLen at hm; omega, fun h => (by cases h), ?_⟩
    · have : zs.length = cap := by simpa using hz
      simp; omega
    · intro i v hv
      have hz' : zs.length = cap := by simpa using hz
      simp only [List.getElem?_map, List.getElem?_take] at hv
      split at hv
      · rename_i hi
        have hlt : i < zs.length := by omega
        rw [List.getElem?_eq_getElem hlt] at hv
        simp only [Option.map_some, Option.some.injEq] at hv
        have hw := hwz zs[i] (List.getElem_mem hlt)
        have hcl := hcell i hlt
        simp [Lit.wf, IntKind.min, IntKind.max, IntKind.bits, IntKind.signed] at hw
        have h0 := hcell 0 (by omega)
        obtain ⟨b, o, sp⟩ := x
        have hsp : sp = none := by
          cases sp with
          | none => rfl
          | some s => exfalso; revert h0; simp [World.cell?, Addr.add]; split <;> simp
        subst hsp
        refine ⟨b, o, rfl, ?_⟩
        have hadd : (⟨b, o, none⟩ : Addr).add i = ⟨b, o + i, none⟩ := by unfold Addr.add; split <;> simp_all
        rw [hadd] at hcl
        rw [hcl, ← hv, bv]
        simp [List.getD, hlt]
        omega
      · cases hv
end Go.Own
