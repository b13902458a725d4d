/- Texts of the proof of 'CheckBuilt', part 6: words on memory, contracts of functions, plain laws. No condition. -/
import Derived.Test.YtjijniillehfoaaMgCheckBuilt5
import Derived.Laws.BitsAllLaws
import Derived.Lib.ReflectliteSwap
import Derived.ProofKit
import Derived.OpenShut
/- Is an arena right: the program's free and Check. -/
namespace Go.Own
theorem freeKeys_snoc (L : List Blk) (x : Blk) : (freeOf (L ++ [x])).map keyOf' = (freeOf L).map keyOf' ++ (if x.used then [] else [keyOf' x]) := by
  unfold freeOf
  rw [List.filter_append, List.map_append]
  cases hu : x.used <;> simp [hu]
end Go.Own
namespace Go.Proofs.Ytjijniillehfoaa
open Go Go.RowKit Go.Own
set_option linter.unusedVariables false
set_option maxRecDepth 100000
section
variable {B : Nat} {w0 w : World} {l : List Ob} {i p bs cp : Nat} {b : List UInt8}
/-- What free tells. -/
def FreR (B : Nat) (w0 : World) (l : List Ob) (L : List Blk) (v : Value) (r : Bool) (w' : World) : Prop :=
  (r = true → Apart L ∧ ∃ g, v = .map (some g) ∧ St B w0 w' (MpO g ((freeOf L).map keyOf') :: l)) ∧ (r = false → ¬ Apart L ∧ St B w0 w' l)
set_option maxHeartbeats 16000000 in
theorem chk_free (h : St B w0 w l) {a : Option Addr} {c : Nat} {L : List Blk} (hi : l[i]? = some (BlsO (.slice a L.length c) L)) (hW : walkB b = some L) (hsm : b.length ≤ 16384) :
    Calls Try.prog 182 #[.slice a L.length c] w fun e w' => ∃ v r, e = .returned (.tuple #[v, .bool r]) ∧ FreR B w0 l L v r w' := by
  have hLs := walk_len hW hsm
  obtain ⟨hlen, ht⟩ := (walkB_tile b L).1 hW
  have hoffs := ht.offs
  have hmem : ∀ x ∈ L, x.off ≤ 16384 ∧ x.size ≤ 16384 ∧ isSize x.size = true := fun x hx => by
    have h1 := ht.mem hx; have h2 := blkAt_some h1.2.1
    exact ⟨by omega, by omega, blkAt_isSize h1.2.1⟩
  have H0 := Lib.hid (mp_make h); have HI := Lib.hid hi; have HM := Lib.hid hmem; have HO := Lib.hid hoffs
  have hmk : (Instr.makeMap mpT none).run Try.prog w = .ok (.map (some w.heap.size)) (w.alloc (.map #[] 0)) := run_makeMap _ _
  generalize w.alloc (.map #[] 0) = w1 at *
  generalize w.heap.size = g at *
  clear h hi hmem hoffs ht hW
  go_enter Try.func182, Try.ntmps182
  go_wp2
  go_loopw [10] (fun vi wr => ∃ k : Nat, k ≤ L.length ∧ vi = .int .i64 k ∧ Apart (L.take k) ∧ St B w0 wr (MpO g ((freeOf (L.take k)).map keyOf') :: l)) (fun vi _ => L.length - (intOf vi).toNat)
  case atStart => exact ⟨0, Nat.zero_le _, rfl, trivial, H0.out⟩
  case round =>
    obtain ⟨k, hk, rfl, hAp, hS⟩ := hrel
    clear H0
    by_cases hlt : k < L.length
    · have d2 : decide ((k : Int) < (L.length : Int)) = true := decide_eq_true (by omega)
      obtain ⟨bb, bo, rfl, hr⟩ := bl_at (bls_sl hS (i := i + 1) HI.out).2 k hlt
      have hprev : ∀ w', St B w0 w' (MpO g ((freeOf (L.take k)).map keyOf') :: l) → ∀ j, k = j + 1 → ∃ hj : j < L.length, w'.cell? ⟨bb, bo + j * 3 + 2, none⟩ = some (.bool L[j].used) := fun w' hS' j hj => by
        have hj2 : j < L.length := by omega
        obtain ⟨bb2, bo2, e2, hr2⟩ := bl_at (bls_sl hS' (i := i + 1) HI.out).2 j hj2
        cases e2
        exact ⟨hj2, (bl_cells hr2).2.2⟩
      have hstep := fun hn => Apart.step hlt hAp hn
      have hnot : ∀ j, (hj : k = j + 1) → (hj2 : j < L.length) → L[j].used = false → L[k].used = false → ¬ Apart L := fun j hj hj2 h1 h2 => by
        subst hj; exact Apart.not hlt h1 h2
      have hsn := freeKeys_snoc (L.take k) L[k]
      rw [← List.take_succ_eq_append_getElem hlt] at hsn
      have hxm := HM.out L[k] (List.getElem_mem hlt)
      have hnk : L[k].used = false → keyOf' L[k] ∉ (freeOf (L.take k)).map keyOf' := fun _ hmm => by
        obtain ⟨y, hy, e⟩ := List.mem_map.1 hmm
        have hy := (mem_freeOf.1 hy).1
        have hp := HO.out
        rw [← List.take_append_drop k L] at hp
        have hd : L[k] ∈ L.drop k := by rw [List.drop_eq_getElem_cons hlt]; exact List.mem_cons_self ..
        exact (List.pairwise_append.1 hp).2.2 y hy _ hd (congrArg Prod.fst e)
      generalize L[k] = x at *
      generalize hks : (freeOf (L.take k)).map keyOf' = ks at *
      have HS := Lib.hid hS; have HST := Lib.hid hstep; have HSN := Lib.hid hsn; have HPREV := Lib.hid hprev; have HR := Lib.hid hr; have HNOT := Lib.hid hnot
      clear hS hr hstep hsn hAp hprev hnot hks
      cases hu : x.used with
      | true =>
        have hst : Apart (L.take (k + 1)) := HST.out fun _ _ _ => .inr hu
        have hsn : (freeOf (L.take (k + 1))).map keyOf' = ks := by rw [HSN.out, hu]; simp
        have HA := Lib.hid hst; have HQ := Lib.hid hsn
        clear hst hsn hnk
        go_wp2_with (first | (refine bl_mid rfl _ rfl bb (bo + k * 3) rfl x HR.out ?_) | (refine bk_alloc HS.out rfl rfl ?_; intro g4 w4 h4; have T4 := Lib.hid h4; clear h4) | (refine bk_store T4.out 0 rfl rfl _ _ rfl rfl x.off x.size true rfl ?_; intro w5 h5; have T5 := Lib.hid h5; clear h5 T4; have k2 : w5.cell? ⟨g4, 2, none⟩ = some (.bool true) := (T5.out.row (i := 0) rfl).cell 2))
        exact ⟨⟨k + 1, hlt, by go_num, HA.out, by rw [HQ.out]; exact T5.out.tail⟩, by simp [intOf]; omega⟩
      | false =>
        have hq2 : x.off ≤ 65536 ∧ clsN x.size ≤ 65536 := ⟨by omega, by have := clsN_lt22 hxm.2.2; omega⟩
        have hnk := hnk hu
        have hsn : (freeOf (L.take (k + 1))).map keyOf' = ks ++ [(x.off, clsN x.size)] := by rw [HSN.out, hu]; rfl
        have hcy := cls_size hxm.2.2
        have hC : cls x.size = ((clsN x.size : Nat) : Int) := by unfold clsN; omega
        have KC : Hid (∀ w, _) := Lib.hid fun w => class_Class w (x.size : Int) (by omega) (by omega)
        rw [hC] at KC
        unfold keyOf' at hnk
        have HQ := Lib.hid hsn; have HNK := Lib.hid hnk; have HQ2 := Lib.hid hq2
        generalize clsN x.size = cz at *
        have fin : Apart (L.take (k + 1)) → ∀ w', St B w0 w' (MpO g (ks ++ [(x.off, cz)]) :: l) → ∃ k_1 : Nat, k_1 ≤ L.length ∧ Value.int .i64 ((k + 1 : Nat) : Int) = .int .i64 k_1 ∧ Apart (L.take k_1) ∧ St B w0 w' (MpO g ((freeOf (L.take k_1)).map keyOf') :: l) :=
          fun hA w' hw => ⟨k + 1, hlt, rfl, hA, by rw [HQ.out]; exact hw⟩
        have FIN := Lib.hid fin
        clear hsn hnk hq2 hC hcy fin
        have go : ∀ (hok : Apart (L.take (k + 1))), True := fun _ => trivial
        clear go
        by_cases hk0 : k = 0
        · subst hk0
          have HA := Lib.hid (HST.out fun j hj _ => by omega)
          go_wp2_with (first | (refine bl_mid rfl _ rfl bb (bo + 0 * 3) rfl x HR.out ?_) | (refine bk_alloc HS.out rfl rfl ?_; intro g4 w4 h4; have T4 := Lib.hid h4; clear h4) | (refine bk_store T4.out 0 rfl rfl _ _ rfl rfl x.off x.size false rfl ?_; intro w5 h5; have T5 := Lib.hid h5; clear h5 T4; have k2 : w5.cell? ⟨g4, 2, none⟩ = some (.bool false) := (T5.out.row (i := 0) rfl).cell 2))
          clear k2
          refine flows_begin (S := fun w' => ∃ ks', St B w0 w' (BkO g4 x.off x.size false :: MpO g ks' :: l)) hmixed 8 rfl (by repeat (first | with_reducible refine ps_then ?_ | with_reducible refine ps_block ?_ | with_reducible exact ps_body | refine ps_then ?_ | refine ps_block ?_ | exact ps_body)) ⟨_, T5.out.drew⟩ (fun hps => ?_)
          simp only [List.replicate]
          refine flows_take 0 (v := ?_) (a' := ?_) hps rfl (by kernel_rfl) rfl ?_ ?_ ?_
          rotate_left 2
          · intro w' hk; go_simp; try rfl
          · simp only [Act.put, List.setIfInBounds_toArray, List.set_cons_succ, List.set_cons_zero]; try rfl
          refine flows_take 1 (v := ?_) (a' := ?_) hps rfl (by kernel_rfl) rfl ?_ ?_ ?_
          rotate_left 2
          · intro w' hk; go_simp; try rfl
          · simp only [Act.put, List.setIfInBounds_toArray, List.set_cons_succ, List.set_cons_zero]; try rfl
          refine flows_take 2 (v := ?_) (a' := ?_) hps rfl (by kernel_rfl) rfl ?_ ?_ ?_
          rotate_left 2
          · intro w' hk; obtain ⟨_, hq⟩ := hk; have c0 := (hq.row (i := 0) rfl).cell 0; simp only [List.getElem?_cons_succ, List.getElem?_cons_zero] at c0; go_simp; try rfl
          · simp only [Act.put, List.setIfInBounds_toArray, List.set_cons_succ, List.set_cons_zero]; try rfl
          refine flows_take 3 (v := ?_) (a' := ?_) hps rfl (by kernel_rfl) rfl ?_ ?_ ?_
          rotate_left 2
          · intro w' hk; go_simp; try rfl
          · simp only [Act.put, List.setIfInBounds_toArray, List.set_cons_succ, List.set_cons_zero]; try rfl
          refine flows_take 4 (v := ?_) (a' := ?_) hps rfl (by kernel_rfl) rfl ?_ ?_ ?_
          rotate_left 2
          · intro w' hk; obtain ⟨_, hq⟩ := hk; have c0 := (hq.row (i := 0) rfl).cell 1; simp only [List.getElem?_cons_succ, List.getElem?_cons_zero] at c0; go_simp; try rfl
          · simp only [Act.put, List.setIfInBounds_toArray, List.set_cons_succ, List.set_cons_zero]; try rfl
          refine flows_one 5 hps rfl (by kernel_rfl) rfl (wp_next (fun K hK => ?_))
          go_simp
          with_reducible refine (KC.out _).mono ?_
          rintro e w' ⟨rfl, rfl⟩
          have kp : ∃ ks', St B w0 w5.drew (BkO g4 x.off x.size false :: MpO g ks' :: l) := ⟨_, T5.out.drew⟩
          refine hK _ _ ⟨kp, ?_⟩
          clear kp hK
          refine flows_take 6 (v := ?_) (a' := ?_) hps rfl (by kernel_rfl) rfl ?_ ?_ ?_
          rotate_left 2
          · intro w' hk; go_simp; try rfl
          · simp only [Act.put, List.setIfInBounds_toArray, List.set_cons_succ, List.set_cons_zero]; try rfl
          refine flows_one 7 hps rfl (by kernel_rfl) rfl (wp_next (fun K hK => ?_))
          refine mp_update_at T5.out.drew 1 rfl (q := (x.off, cz)) _ _ _ rfl rfl rfl rfl HQ2.out HNK.out ?_
          intro w6 h6
          have T6 := Lib.hid h6
          have kp : ∃ ks', St B w0 w6 (BkO g4 x.off x.size false :: MpO g ks' :: l) := ⟨_, h6⟩
          clear h6
          refine hK _ _ ⟨kp, ?_⟩
          clear kp hK
          refine flows_done hps (by kernel_rfl) ?_
          go_wp2
          exact ⟨FIN.out HA.out _ T6.out.tail, by simp [intOf]; omega⟩
        · obtain ⟨j, rfl⟩ : ∃ j, k = j + 1 := ⟨k - 1, by omega⟩
          have u2 : IntKind.i64.wrap (((j + 1 : Nat) : Int) - 1) = (j : Int) := by rw [IntWalk.i64_in _ (by omega)]; omega
          have u3 : IntKind.i64.wrap ((j : Int) + 1 - 1) = (j : Int) := by rw [IntWalk.i64_in _ (by omega)]; omega
          obtain ⟨hj, _⟩ := HPREV.out _ HS.out j rfl
          have hst := fun (hh : L[j].used = true) => HST.out (fun j' hj' hj2 => by cases hj'; exact .inl hh)
          have hnot := fun (hh : L[j].used = false) => HNOT.out j rfl hj hh hu
          have hpv : ∀ w', St B w0 w' (MpO g ks :: l) → w'.cell? ⟨bb, bo + j * 3 + 2, none⟩ = some (.bool L[j].used) := fun w' hw => (HPREV.out w' hw j rfl).2
          generalize L[j] = y at *
          have HST2 := Lib.hid hst; have HNOT2 := Lib.hid hnot; have HPV := Lib.hid hpv
          clear hst hnot hpv
          cases hy : y.used with
          | true =>
            have HA := Lib.hid (HST2.out hy)
            rw [hy] at HPV
            clear hy
            go_wp2_with (first | (refine bl_mid rfl _ rfl bb (bo + (j + 1) * 3) rfl x HR.out ?_) | (refine bk_alloc HS.out rfl rfl ?_; intro g4 w4 h4; have T4 := Lib.hid h4; clear h4) | (refine bk_store T4.out 0 rfl rfl _ _ rfl rfl x.off x.size false rfl ?_; intro w5 h5; have T5 := Lib.hid h5; clear h5 T4; have k2 : w5.cell? ⟨g4, 2, none⟩ = some (.bool false) := (T5.out.row (i := 0) rfl).cell 2; have k3 := HPV.out w5 T5.out.tail))
            clear k2 k3
            refine flows_begin (S := fun w' => ∃ ks', St B w0 w' (BkO g4 x.off x.size false :: MpO g ks' :: l)) hmixed 8 rfl (by repeat (first | with_reducible refine ps_then ?_ | with_reducible refine ps_block ?_ | with_reducible exact ps_body | refine ps_then ?_ | refine ps_block ?_ | exact ps_body)) ⟨_, T5.out.drew⟩ (fun hps => ?_)
            simp only [List.replicate]
            refine flows_take 0 (v := ?_) (a' := ?_) hps rfl (by kernel_rfl) rfl ?_ ?_ ?_
            rotate_left 2
            · intro w' hk; go_simp; try rfl
            · simp only [Act.put, List.setIfInBounds_toArray, List.set_cons_succ, List.set_cons_zero]; try rfl
            refine flows_take 1 (v := ?_) (a' := ?_) hps rfl (by kernel_rfl) rfl ?_ ?_ ?_
            rotate_left 2
            · intro w' hk; go_simp; try rfl
            · simp only [Act.put, List.setIfInBounds_toArray, List.set_cons_succ, List.set_cons_zero]; try rfl
            refine flows_take 2 (v := ?_) (a' := ?_) hps rfl (by kernel_rfl) rfl ?_ ?_ ?_
            rotate_left 2
            · intro w' hk; obtain ⟨_, hq⟩ := hk; have c0 := (hq.row (i := 0) rfl).cell 0; simp only [List.getElem?_cons_succ, List.getElem?_cons_zero] at c0; go_simp; try rfl
            · simp only [Act.put, List.setIfInBounds_toArray, List.set_cons_succ, List.set_cons_zero]; try rfl
            refine flows_take 3 (v := ?_) (a' := ?_) hps rfl (by kernel_rfl) rfl ?_ ?_ ?_
            rotate_left 2
            · intro w' hk; go_simp; try rfl
            · simp only [Act.put, List.setIfInBounds_toArray, List.set_cons_succ, List.set_cons_zero]; try rfl
            refine flows_take 4 (v := ?_) (a' := ?_) hps rfl (by kernel_rfl) rfl ?_ ?_ ?_
            rotate_left 2
            · intro w' hk; obtain ⟨_, hq⟩ := hk; have c0 := (hq.row (i := 0) rfl).cell 1; simp only [List.getElem?_cons_succ, List.getElem?_cons_zero] at c0; go_simp; try rfl
            · simp only [Act.put, List.setIfInBounds_toArray, List.set_cons_succ, List.set_cons_zero]; try rfl
            refine flows_one 5 hps rfl (by kernel_rfl) rfl (wp_next (fun K hK => ?_))
            go_simp
            with_reducible refine (KC.out _).mono ?_
            rintro e w' ⟨rfl, rfl⟩
            have kp : ∃ ks', St B w0 w5.drew (BkO g4 x.off x.size false :: MpO g ks' :: l) := ⟨_, T5.out.drew⟩
            refine hK _ _ ⟨kp, ?_⟩
            clear kp hK
            refine flows_take 6 (v := ?_) (a' := ?_) hps rfl (by kernel_rfl) rfl ?_ ?_ ?_
            rotate_left 2
            · intro w' hk; go_simp; try rfl
            · simp only [Act.put, List.setIfInBounds_toArray, List.set_cons_succ, List.set_cons_zero]; try rfl
            refine flows_one 7 hps rfl (by kernel_rfl) rfl (wp_next (fun K hK => ?_))
            refine mp_update_at T5.out.drew 1 rfl (q := (x.off, cz)) _ _ _ rfl rfl rfl rfl HQ2.out HNK.out ?_
            intro w6 h6
            have T6 := Lib.hid h6
            have kp : ∃ ks', St B w0 w6 (BkO g4 x.off x.size false :: MpO g ks' :: l) := ⟨_, h6⟩
            clear h6
            refine hK _ _ ⟨kp, ?_⟩
            clear kp hK
            refine flows_done hps (by kernel_rfl) ?_
            go_wp2
            exact ⟨FIN.out HA.out _ T6.out.tail, by simp [intOf]; omega⟩
          | false =>
            have HN := Lib.hid (HNOT2.out hy)
            rw [hy] at HPV
            clear hy
            go_wp2_with (first | (refine bl_mid rfl _ rfl bb (bo + (j + 1) * 3) rfl x HR.out ?_) | (refine bk_alloc HS.out rfl rfl ?_; intro g4 w4 h4; have T4 := Lib.hid h4; clear h4) | (refine bk_store T4.out 0 rfl rfl _ _ rfl rfl x.off x.size false rfl ?_; intro w5 h5; have T5 := Lib.hid h5; clear h5 T4; have k2 : w5.cell? ⟨g4, 2, none⟩ = some (.bool false) := (T5.out.row (i := 0) rfl).cell 2; have k3 := HPV.out w5 T5.out.tail))
            go_ret2
            exact ⟨_, false, rfl, fun e => (by cases e), fun _ => ⟨HN.out, T5.out.tail.tail⟩⟩
    · obtain rfl : k = L.length := by omega
      rw [List.take_length] at hAp hS
      have d2 : decide ((L.length : Int) < (L.length : Int)) = false := decide_eq_false (by omega)
      have HAP := Lib.hid hAp; have HS := Lib.hid hS
      clear hAp hS
      go_wp2
      go_ret2
      exact ⟨_, true, rfl, fun _ => ⟨HAP.out, g, rfl, HS.out⟩, fun e => by cases e⟩
end
end Go.Proofs.Ytjijniillehfoaa

/- Is an arena right: the program's Check. -/
namespace Go.Proofs.Ytjijniillehfoaa
open Go Go.RowKit Go.Own
set_option linter.unusedVariables false
set_option maxRecDepth 100000
section
variable {B : Nat} {w0 w : World} {l : List Ob} {i p bs cp : Nat} {b : List UInt8}
/-- What Check tells, as an error. -/
def chkV (r : Bool) : Value := if r then .nilIface else .iface 183 (.int .i64 3)
theorem shr22 (V : Nat) (h : V < 18446744073709551616) : ((V : Int) / 4194304 != 0) = decide (4194304 ≤ V) := by
  rw [Bool.eq_iff_iff, bne_iff_ne, decide_eq_true_iff]; omega
set_option maxHeartbeats 16000000 in
theorem chk_Check (h : St B w0 w (l.set i (ArT p ⟨bs, cp, b⟩))) (hil : i < l.length) :
    Calls Try.prog 83 #[arP p] w fun e w' => ∃ r, e = .returned (chkV r) ∧ ChkR b r ∧ St B w0 w' (l.set i (ArT p ⟨bs, cp, b⟩)) := by
  obtain ⟨hsm, hbs⟩ := ls_small h hil
  have kw := blk_Walk h (at_set hil _)
  simp only at kw
  have H := Lib.hid h; have HSM := Lib.hid hsm; have HIL := Lib.hid hil
  clear h
  cases hW : walkB b with
  | none =>
    have hr : ¬ IsRight b := fun ⟨bs, ls, hR, _⟩ => by rw [hR.walk] at hW; cases hW
    have HR := Lib.hid (chk_no hr)
    rw [hW, show errW none = .iface 183 (.int .i64 3) from rfl] at kw
    have KW := Lib.hid kw
    clear kw hr hW hil
    go_enter Try.func83, Try.ntmps83
    go_wp2_with fail
    have kc := KW.out
    with_reducible refine kc.mono ?_
    clear kc
    rintro e w3 ⟨v3', rfl, t3⟩
    have T3 := Lib.hid t3
    clear t3
    go_wp2
    go_ret
    exact ⟨false, rfl, HR.out, T3.out.tail⟩
  | some L =>
    rw [hW, show errW (some L) = .nilIface from rfl, Option.getD_some] at kw
    have hLs := walk_len hW hsm
    have KW := Lib.hid kw; have HW := Lib.hid hW
    have htile := ((walkB_tile b L).1 hW).2
    have h184 : 184 ≤ b.length := ((walkB_tile b L).1 hW).1
    have hV := numAt_lt b 0
    have HTI := Lib.hid htile
    have kn := fun w' (l' : List Ob) (h' : St B w0 w' l') (j : Nat) (hj : l'[j]? = some (ArT p ⟨bs, cp, b⟩)) => ar_WordAt h' hj (bs : Int) 0 (by show (bs : Int) = (bs : Int) + 0; omega) (by show 0 + 8 ≤ b.length; omega)
    obtain ⟨V, hVe⟩ : ∃ V, V = numAt b 0 := ⟨_, rfl⟩
    simp only at kn
    rw [← hVe] at hV kn
    have KN := Lib.hid kn; have HVE := Lib.hid hVe
    clear kw hW kn hVe h184 htile
    have hset : (l.set i (ArT p ⟨bs, cp, b⟩))[i]? = some (ArT p ⟨bs, cp, b⟩) := at_set hil _
    have HSET := Lib.hid hset
    generalize l.set i (ArT p ⟨bs, cp, b⟩) = la at *
    clear hset hil
    go_enter Try.func83, Try.ntmps83
    go_wp2_with fail
    have kc := KW.out
    with_reducible refine kc.mono ?_
    clear kc
    rintro e w3 ⟨v3', rfl, t3⟩
    have T3 := Lib.hid t3
    clear t3
    obtain ⟨a3, c3, e3, _⟩ := bls_slice T3.out (i := 0) rfl
    subst e3
    go_wp2_with fail
    have kc := chk_free T3.out (i := 0) rfl HW.out HSM.out
    with_reducible refine kc.mono ?_
    clear kc
    rintro e w4 ⟨vm', rm', rfl, t4⟩
    have T4 := Lib.hid t4
    clear t4
    go_wp2_with fail
    have kc := ar_Base (i := i + 1) (l := BlsO (.slice a3 L.length c3) L :: la) (A := ⟨bs, cp, b⟩) (by cases rm'; exact (T4.out.2 rfl).2; obtain ⟨_, _, _, q⟩ := T4.out.1 rfl; exact q.tail) HSET.out
    with_reducible refine kc.mono ?_
    clear kc
    rintro e w' ⟨rfl, rfl⟩
    go_wp2_with fail
    have kc := KN.out w4 (BlsO (.slice a3 L.length c3) L :: la) (by cases rm'; exact (T4.out.2 rfl).2; obtain ⟨_, _, _, q⟩ := T4.out.1 rfl; exact q.tail) (i + 1) HSET.out
    with_reducible refine kc.mono ?_
    clear kc
    rintro e w' ⟨rfl, rfl⟩
    cases hrm : rm' with
    | false =>
      subst hrm
      obtain ⟨hnap, hs4⟩ := T4.out.2 rfl
      have hr : ¬ IsRight b := fun ⟨bs, ls, hR, hap⟩ => by
        have e := hR.walk
        rw [HW.out] at e
        cases e
        exact hnap hap
      have HR := Lib.hid (chk_no hr); have S4 := Lib.hid hs4
      clear hnap hr hs4 T4
      go_wp2
      go_ret
      exact ⟨false, rfl, HR.out, S4.out.tail⟩
    | true =>
      subst hrm
      obtain ⟨hap, g, hvm, hs4⟩ := T4.out.1 rfl
      subst hvm
      have HAP := Lib.hid hap; have S4 := Lib.hid hs4
      clear hap hs4 T4
      have hsh := shr22 V hV
      by_cases hV2 : 4194304 ≤ V
      · rw [decide_eq_true hV2] at hsh
        have hr : ¬ IsRight b := fun ⟨bs, ls, hR, _⟩ => by have := hR.lists.w0; rw [← HVE.out] at this; omega
        have HR := Lib.hid (chk_no hr)
        clear hr
        go_wp2
        go_ret
        exact ⟨false, rfl, HR.out, S4.out.tail.tail⟩
      rw [decide_eq_false hV2] at hsh
      go_wp2
      clear hsh
      go_loopw [46] (fun vc wr => ∃ (c : Nat) (ls : Nat → List Nat), c ≤ 22 ∧ vc = .int .i64 c ∧ (∀ d, d < c → allB b d = some (ls d)) ∧ (∀ d, d < c → ∀ k, (hk : k < (ls d).length) → ((ls d)[k], d) ∈ leftK L ls d ((ls d).take k)) ∧ St B w0 wr (MpO g (leftK L ls c []) :: BlsO (.slice a3 L.length c3) L :: la)) (fun vc _ => 22 - (intOf vc).toNat)
      case atStart => exact ⟨0, fun _ => [], Nat.zero_le _, rfl, fun d hd => by omega, fun d hd => by omega, by rw [leftK_start]; exact S4.out⟩
      case round =>
        obtain ⟨c, ls, hc, rfl, hall, hin, hS⟩ := hrel
        clear S4
        by_cases hlt : c < 22
        · have d2 : decide ((c : Int) < 22) = true := decide_eq_true (by omega)
          have ka := ls_All (l := MpO g (leftK L ls c []) :: BlsO (.slice a3 L.length c3) L :: la) (i := i + 2) (bs := bs) (cp := cp) (p := p) (b := b) (by rw [set_same (l := MpO g (leftK L ls c []) :: BlsO (.slice a3 L.length c3) L :: la) (i := i + 2) HSET.out]; exact hS) (by have := (List.getElem?_eq_some_iff.1 HSET.out).1; simp only [List.length_cons]; omega) c hlt
          rw [set_same (i := i + 2) (l := MpO g (leftK L ls c []) :: BlsO (.slice a3 L.length c3) L :: la) HSET.out] at ka
          cases hA : allB b c with
          | none =>
            have hr : ¬ IsRight b := fun ⟨bs, ls, hR, hap⟩ => by
              have e := hR.all hlt
              rw [hA] at e; cases e
            have HR := Lib.hid (chk_no hr)
            rw [hA, show errA none = .iface 183 (.int .i64 3) from rfl] at ka
            have KA := Lib.hid ka
            clear hS ka hA hr hall hin
            go_wp2_with fail
            have kc := KA.out
            with_reducible refine kc.mono ?_
            clear kc
            rintro e w4 ⟨v4', rfl, t4⟩
            have T4 := Lib.hid t4
            clear t4
            go_wp2
            go_ret
            exact ⟨false, rfl, HR.out, T4.out.tail.tail.tail⟩
          | some A =>
            rw [hA, show errA (some A) = .nilIface from rfl, Option.getD_some] at ka
            obtain ⟨ls', hls'⟩ : ∃ ls' : Nat → List Nat, ls' = fun d => if d = c then A else ls d := ⟨_, rfl⟩
            have hc1 : ls' c = A := by rw [hls']; simp
            have hc2 : ∀ d, d < c → ls d = ls' d := fun d hd => by rw [hls']; simp; omega
            rw [leftK_congr hc2] at ka
            have hall' : ∀ d, d < c + 1 → allB b d = some (ls' d) := fun d hd => by
              by_cases hdc : d = c
              · subst hdc; rw [hc1]; exact hA
              · rw [← hc2 d (by omega)]; exact hall d (by omega)
            have hin' : ∀ d, d < c → ∀ k, (hk : k < (ls' d).length) → ((ls' d)[k], d) ∈ leftK L ls' d ((ls' d).take k) := fun d hd k hk => by
              have h1 : k < (ls d).length := by rw [hc2 d hd]; exact hk
              have := hin d hd k h1
              rw [leftK_congr (ls' := ls') fun e he => hc2 e (by omega)] at this
              have e := hc2 d hd
              simp only [e] at this
              exact this
            have hkey : ∀ k, (hk : k < A.length) → A[k] ≤ 65536 := fun k hk => by
              obtain ⟨x, hx, _⟩ := memberB_some ((allB_inv hA).2.2.2 _ (List.getElem_mem hk)).2
              have := blkAt_some hx; have := HSM.out; omega
            have hAr : ∀ bs ls'', Right b bs ls'' → bs = L ∧ ls'' c = A ∧ ∀ d, d < c → ls'' d = ls' d := fun bs ls'' hR => by
              have e1 := hR.walk
              rw [HW.out] at e1
              cases e1
              refine ⟨rfl, ?_, fun d hd => ?_⟩
              · have e2 := hR.all hlt
                rw [hA] at e2
                exact (Option.some.inj e2).symm
              · have e2 := hR.all (c := d) (by omega)
                rw [hall' d (by omega)] at e2
                exact (Option.some.inj e2).symm
            have hAl : A.length ≤ 1000000 := by
              have := hA
              unfold allB at this
              split at this
              · cases this
              · split at this
                · cases this
                · have := (allFrom_inv _ _ _ _ this).2.2; omega
            have KA := Lib.hid ka; have HJ := Lib.hid (And.intro hall' (And.intro hin' (And.intro hc1 (And.intro hkey hAr))))
            clear hS ka hA hall' hin' hc1 hc2 hkey hAr hls' hall hin
            go_wp2_with fail
            have kc := KA.out
            with_reducible refine kc.mono ?_
            clear kc
            rintro e w4 ⟨v4', rfl, t4⟩
            have T4 := Lib.hid t4
            clear t4
            obtain ⟨a4, c4, e4, hs4⟩ := ints_slice T4.out (i := 0) rfl
            subst e4
            clear hs4
            go_wp2
            clear d2
            go_loopw [60] (fun vk wr => ∃ k : Nat, k ≤ A.length ∧ vk = .int .i64 k ∧ (∀ j, j < k → (hj : j < A.length) → (A[j], c) ∈ leftK L ls' c (A.take j)) ∧ St B w0 wr (IntsO (.slice a4 A.length c4) A :: MpO g (leftK L ls' c (A.take k)) :: BlsO (.slice a3 L.length c3) L :: la)) (fun vk _ => A.length - (intOf vk).toNat)
            case atStart => exact ⟨0, Nat.zero_le _, rfl, fun j hj => by omega, T4.out⟩
            case round =>
              obtain ⟨k, hk, rfl, hok, hS⟩ := hrel
              clear T4
              by_cases hltk : k < A.length
              · have d2 : decide ((k : Int) < (A.length : Int)) = true := decide_eq_true (by omega)
                obtain ⟨b2, o2, rfl, c2⟩ := ints_at hS (i := 0) rfl k hltk
                have hq := HJ.out.2.2.2.1 k hltk
                have hex : (A[k], c) ∉ leftK L ls' c (A.take k) → ¬ IsRight b := fun hn ⟨bs, ls'', hR, _⟩ => by
                  obtain ⟨rfl, e2, e3⟩ := HJ.out.2.2.2.2 bs ls'' hR
                  have := hR.left hlt (k := k) (by rw [e2]; exact hltk)
                  rw [leftK_congr e3] at this
                  simp only [e2] at this
                  exact hn this
                have hnx : (leftK L ls' c (A.take k)).filter (· ≠ (A[k], c)) = leftK L ls' c (A.take (k + 1)) := by
                  rw [leftK_erase HTI.out, List.take_succ_eq_append_getElem hltk]
                have hnd : (leftK L ls' c (A.take k)).Nodup := leftK_nodup HTI.out
                have hstep : (A[k], c) ∈ leftK L ls' c (A.take k) → ∀ j, j < k + 1 → (hj : j < A.length) → (A[j], c) ∈ leftK L ls' c (A.take j) := fun hm j hj hj2 => by
                  by_cases hjk : j = k
                  · subst hjk; exact hm
                  · exact hok j (by omega) hj2
                generalize A[k] = O at *
                generalize leftK L ls' c (A.take k) = lf at *
                generalize hlf2 : leftK L ls' c (A.take (k + 1)) = lf2 at *
                have HX := Lib.hid (And.intro hex (And.intro hnx hnd)); have HST := Lib.hid hstep
                have HS := Lib.hid hS; have HLF2 := Lib.hid hlf2
                clear hex hnx hnd hok hS hstep hlf2
                by_cases hm : (O, c) ∈ lf
                · have HM := Lib.hid hm
                  have dm : decide ((O, c) ∈ lf) = true := decide_eq_true hm
                  clear hm
                  go_wp2_with (first | (refine mp_lookup_st HS.out 1 rfl rfl _ _ rfl rfl (q := (O, c)) rfl ⟨hq, by omega⟩ ?_; rw [dm]) | (refine mp_delete_st HS.out 1 rfl rfl _ _ rfl rfl (q := (O, c)) rfl ⟨hq, by omega⟩ HX.out.2.2 HM.out ?_; intro w6 h6; rw [HX.out.2.1] at h6; have H6 := Lib.hid h6; clear h6))
                  exact ⟨⟨k + 1, hltk, by go_num, HST.out HM.out, by rw [HLF2.out]; exact H6.out⟩, by simp [intOf]; omega⟩
                · have HR := Lib.hid (chk_no (HX.out.1 hm))
                  have dm : decide ((O, c) ∈ lf) = false := decide_eq_false hm
                  clear hm
                  go_wp2_with (refine mp_lookup_st HS.out 1 rfl rfl _ _ rfl rfl (q := (O, c)) rfl ⟨hq, by omega⟩ ?_; rw [dm])
                  go_ret
                  exact ⟨false, rfl, HR.out, HS.out.tail.tail.tail⟩
              · obtain rfl : k = A.length := by omega
                rw [List.take_length] at hS
                have d2 : decide ((A.length : Int) < (A.length : Int)) = false := decide_eq_false (by omega)
                have HS := Lib.hid hS; have HOK := Lib.hid hok
                clear hS hok
                go_wp2
                refine ⟨⟨c + 1, ls', hlt, by go_num, HJ.out.1, fun d hd k hk => ?_, ?_⟩, by simp [intOf]; omega⟩
                · by_cases hdc : d = c
                  · subst hdc
                    have e := HJ.out.2.2.1
                    simp only [e] at hk ⊢
                    exact HOK.out k hk hk
                  · exact HJ.out.2.1 d (by omega) k hk
                · rw [← leftK_next, HJ.out.2.2.1]; exact HS.out.tail
        · obtain rfl : c = 22 := by omega
          have d2 : decide ((22 : Int) < 22) = false := by decide
          have hfin : leftK L ls 22 [] = [] → IsRight b := fun hn => ⟨L, ls, right_struck HSM.out HW.out (by rw [← HVE.out]; omega) hall hin hn, HAP.out⟩
          have hbad : leftK L ls 22 [] ≠ [] → ¬ IsRight b := fun hn ⟨bs, ls'', hR, _⟩ => by
            have e1 := hR.walk
            rw [HW.out] at e1
            cases e1
            refine hn ?_
            rw [leftK_congr (ls' := ls'') fun d hd => by
              have e2 := hR.all hd
              rw [hall d hd] at e2
              exact Option.some.inj e2]
            exact hR.leftNil
          generalize leftK L ls 22 [] = lf at *
          have HS := Lib.hid hS; have HF := Lib.hid (And.intro hfin hbad)
          clear hS hfin hbad hall hin
          cases lf with
          | nil =>
            have HR := Lib.hid (chk_yes (HF.out.1 rfl))
            go_wp2_with (at_len; refine mp_len_st HS.out 0 rfl rfl _ rfl rfl ?_; rw [show ((([] : List (Nat × Nat)).length : Nat) : Int) = 0 from rfl])
            go_ret
            exact .inr ⟨rfl, HR.out, HS.out.tail.tail⟩
          | cons q r =>
            have HR := Lib.hid (chk_no (HF.out.2 (by simp)))
            obtain ⟨N, hn⟩ : ∃ N, (q :: r).length = N := ⟨_, rfl⟩
            have hN : 0 < N := by rw [← hn, List.length_cons]; omega
            have d3 : decide (0 < N) = true := decide_eq_true hN
            go_wp2_with (at_len; refine mp_len_st HS.out 0 rfl rfl _ rfl rfl ?_; rw [hn])
            go_ret
            exact ⟨false, rfl, HR.out, HS.out.tail.tail⟩
end
end Go.Proofs.Ytjijniillehfoaa

/- Layer 11: the example; whether an arena of any bytes is right. -/
namespace Go.Own
theorem numAt_zero {n t : Nat} (h : t + 8 ≤ n) : numAt (List.replicate n (0 : UInt8)) t = 0 := by
  unfold numAt
  rw [List.length_replicate, if_pos h, List.drop_replicate, List.take_replicate, show min 8 (n - t) = 8 by omega]
  rfl
theorem right_zero : IsRight (List.replicate 184 (0 : UInt8)) := by
  refine ⟨[], fun _ => [], ⟨by rw [List.length_replicate]; decide, by rw [List.length_replicate]; rfl, ?_, fun y hy => by cases hy⟩, trivial⟩
  refine ⟨?_, fun c hc => ?_, fun c hc => ⟨0, rfl, ?_⟩, fun c hc o ho => (by cases ho), fun c hc => List.nodup_nil⟩
  · rw [numAt_zero (by decide)]; decide
  · rw [numAt_zero (by decide)]; unfold bitAt; simp
  · rw [numAt_zero (by unfold headO; omega)]
/-- With another first byte, and nothing else: it is none. -/
theorem not_right_one : ¬ IsRight ([1] ++ List.replicate 183 (0 : UInt8)) := by
  rintro ⟨bs, ls, hR, _⟩
  have hd : ∀ s, ([1] ++ List.replicate 183 (0 : UInt8)).drop (s + 1) = List.replicate (183 - s) 0 := fun s => by
    show (List.replicate 183 (0 : UInt8)).drop s = _
    rw [List.drop_replicate]
  have hl : ([1] ++ List.replicate 183 (0 : UInt8)).length = 184 := by rw [List.length_append, List.length_replicate]; rfl
  have hn : ∀ t, 1 ≤ t → t + 8 ≤ 184 → numAt ([1] ++ List.replicate 183 (0 : UInt8)) t = 0 := fun t h1 h2 => by
    obtain ⟨s, rfl⟩ : ∃ s, t = s + 1 := ⟨t - 1, by omega⟩
    unfold numAt
    rw [hl, if_pos h2, hd, List.take_replicate, show min 8 (183 - s) = 8 by omega]
    rfl
  have h0 : numAt ([1] ++ List.replicate 183 (0 : UInt8)) 0 = 1 := by
    unfold numAt
    rw [hl, if_pos (by decide), List.drop_zero, List.take_append, List.take_replicate]
    rfl
  have hb := hR.lists.bit 0 (by decide)
  rw [h0] at hb
  have hh := hR.lists.headNe hR.good (c := 0) (by decide)
  rw [hn (headO 0) (by decide) (by decide)] at hh
  have : ls 0 = [] := Classical.byContradiction fun h => (hh.2 h) rfl
  rw [this] at hb
  revert hb; decide
theorem putI_length (b : List UInt8) (o : Int) : ((putI b o).getD b).length = b.length := by
  unfold putI
  split
  · unfold putB
    cases hf : freeB b o.toNat with
    | none => rfl
    | some c =>
      obtain ⟨x, _, _, _, hc, h1, h2, h3⟩ := freeB_some hf
      have hho : headO c ≤ 176 := by unfold headO; omega
      simp only
      split
      · rfl
      · rename_i hh
        have l1 : (layAt (layAt b (o.toNat + 8) (numAt b (headO c))) (o.toNat + 16) 0).length = b.length := by rw [layAt_length _ _ _ (by rw [layAt_length _ _ _ (by omega)]; omega), layAt_length _ _ _ (by omega)]
        have l2 : (if numAt b (headO c) = 0 then layAt (layAt b (o.toNat + 8) (numAt b (headO c))) (o.toNat + 16) 0 else layAt (layAt (layAt b (o.toNat + 8) (numAt b (headO c))) (o.toNat + 16) 0) (numAt b (headO c) + 16) o.toNat).length = b.length := by
          split
          · exact l1
          · rename_i h0
            have hm : memberB b (numAt b (headO c)) c = true := by
              cases hmm : memberB b (numAt b (headO c)) c with
              | true => rfl
              | false => exact absurd (Or.inr ⟨h0, hmm⟩) hh
            have := memberB_at hm
            rw [layAt_length _ _ _ (by rw [l1]; omega), l1]
        show (markB _ c).length = _
        unfold markB
        have l3 : (layAt (if numAt b (headO c) = 0 then layAt (layAt b (o.toNat + 8) (numAt b (headO c))) (o.toNat + 16) 0 else layAt (layAt (layAt b (o.toNat + 8) (numAt b (headO c))) (o.toNat + 16) 0) (numAt b (headO c) + 16) o.toNat) (headO c) o.toNat).length = b.length := by rw [layAt_length _ _ _ (by rw [l2]; omega), l2]
        rw [layAt_length _ _ _ (by rw [l3]; omega), l3]
  · rfl
end Go.Own
namespace Go.Proofs.Ytjijniillehfoaa
open Go Go.RowKit Go.Own
set_option linter.unusedVariables false
set_option maxRecDepth 100000
theorem chkV_true {b : List UInt8} {r : Bool} (h : ChkR b r) (hb : IsRight b) : r = true := h.2 hb
theorem chkV_false {b : List UInt8} {r : Bool} (h : ChkR b r) (hb : ¬ IsRight b) : r = false := by
  cases r with
  | false => rfl
  | true => exact absurd (h.1 rfl) hb
/-- 'append([]byte{1}, make([]byte, n)...)'. -/
theorem one_zeros {B : Nat} {w0 w : World} {l : List Ob} {ops : Array Oper} {rest : List Oper} {o : Oper} {a : Act} {Q : Exit → Act → World → Prop} (hgd : Region.wanted o (yielded ops a.tmps) = true) (s x : Operand)
    (ho : o.op = .call { callee := .builtin .append, args := #[s, x], argTypes := #[31, 3] }) (h : St B w0 w l) (hs : a.eval s = .slice (some ⟨w.heap.size, 0, none⟩) 1 1) (n : Nat) (m : Int) (hm : m = n) (hn : n ≤ 100000) (hx : a.eval x = .int .i64 m)
    (hk : ∀ v' w', St B w0 w' (OwB v' ([1] ++ List.replicate n 0) :: l) → wpList Try.prog ops Q rest (a.put o.dst v') w') : wpList Try.prog ops Q (o :: rest) a (w.alloc (.cells #[.int .u8 1] 5 (0, 0))) := by
  have own0 : (w.alloc (.cells #[.int .u8 1] 5 (0, 0))).ownsRow w.heap.size 5 1 (.slice (some ⟨w.heap.size, 0, none⟩) 1 1) 1 [.int .u8 1] := own_lit 5 [.int .u8 1] (Nat.le_refl _) rfl (by decide)
  have h1 := h.addOwn ((Below.refl _ _).alloc (Nat.le_refl _) (.cells #[.int .u8 1] 5 (0, 0))) own0
  refine app_zeros_own hgd s x 31 3 ho 0 5 (.int .u8 0) 1 Try.underlying31 Try.underlying3 info_u8 rfl rfl (by decide) _ _ _ hs (h1.own (i := 0) rfl) _ m n hm hx (by omega) (Nat.zero_le _) fun v' w' g1 g2 g3 => hk v' w' ?_
  have h2 := h1.ownTo (i := 0) rfl w' v' _ _ g1 g2 g3
  unfold OwB
  rw [List.length_append, List.length_replicate, List.map_append, List.map_replicate]
  exact h2
set_option maxHeartbeats 4000000 in
theorem up11 (w : World) : Calls Try.prog 80 #[] w fun e w' => e = .returned (.bool true) ∧ Below w.heap.size w w' := by
  have T0 := Lib.hid (St.start w)
  obtain ⟨g, W, hmk, t1⟩ := mk_st T0.out (184 : Int) 184 rfl (by decide)
  have hz : (List.replicate 184 (0 : UInt8)).length = 184 := List.length_replicate ..
  have hR := right_zero
  have hN := not_right_one
  have hol : ([1] ++ List.replicate 183 (0 : UInt8)).length = 184 := by rw [List.length_append, List.length_replicate]; rfl
  generalize List.replicate 184 (0 : UInt8) = z at *
  have hz1 := fun (w1 : World) (l1 : List Ob) (h1 : St w.heap.size w w1 l1) => h1
  generalize hrep : [1] ++ List.replicate 183 (0 : UInt8) = z1 at *
  have HR := Lib.hid hR; have HN := Lib.hid hN; have HZ := Lib.hid hz; have T1 := Lib.hid t1; have HOL := Lib.hid hol; have HREP := Lib.hid hrep
  clear hR hN hz t1 hz1 hol hrep
  go_enter Try.func80, Try.ntmps80
  go_wp2_with fail
  have kc := ar_Arena T1.out 16 16 rfl 1024 1024 rfl (by decide) (by decide) (by decide) (by decide) (some ⟨g, 0, none⟩) 184 184 z (T1.out.bsV (i := 0) rfl) (by rw [HZ.out]; decide)
  with_reducible refine kc.mono ?_
  clear kc
  rintro e w2 ⟨q, rfl, t2⟩
  have T2 := Lib.hid t2
  clear t2
  go_wp2_with (at_builtin; go_must (refine one_zeros rfl (.tmp 5) (.const (.int .i64 183)) rfl T2.out rfl 183 183 rfl (by decide) rfl ?_; intro v3 w3 h3; rw [HREP.out] at h3; have T3 := Lib.hid h3; clear h3))
  obtain ⟨a3, c3, rfl, h4⟩ := T3.out.ownAs
  rw [HOL.out] at h4
  have T4 := Lib.hid h4
  clear h4
  rw [HOL.out]
  have kc := ar_Arena T4.out 16 16 rfl 1024 1024 rfl (by decide) (by decide) (by decide) (by decide) a3 184 c3 z1 (T4.out.as (i := 0) rfl) (by rw [HOL.out]; decide)
  with_reducible refine kc.mono ?_
  clear kc
  rintro e w5 ⟨q2, rfl, t5⟩
  have T5 := Lib.hid t5
  clear t5
  have T6 := Lib.hid (show St w.heap.size w w5 (([ArT q2 ⟨16, 1024, z1⟩, ArT q ⟨16, 1024, z⟩] : List Ob).set 1 (ArT q ⟨16, 1024, z⟩)) from T5.out.sub (List.Sublist.cons_cons _ (List.Sublist.cons _ (List.Sublist.cons_cons _ (List.nil_sublist _)))))
  clear T5
  go_wp2_with fail
  have kc := chk_Check T6.out (Nat.lt_succ_self 1)
  with_reducible refine kc.mono ?_
  clear kc
  rintro e w7 ⟨r7', rfl, b7', t7⟩
  have T7 := Lib.hid t7
  clear t7
  obtain rfl := chkV_true b7' HR.out
  rw [show chkV true = .nilIface from rfl]
  have T8 := Lib.hid (show St w.heap.size w w7 (([ArT q2 ⟨16, 1024, z1⟩, ArT q ⟨16, 1024, z⟩] : List Ob).set 0 (ArT q2 ⟨16, 1024, z1⟩)) from T7.out)
  clear T7
  go_wp2_with fail
  have kc := chk_Check T8.out (Nat.zero_lt_succ 1)
  with_reducible refine kc.mono ?_
  clear kc
  rintro e w9 ⟨r9', rfl, b9', t9⟩
  have T9 := Lib.hid t9
  clear t9
  obtain rfl := chkV_false b9' HN.out
  rw [show chkV false = .iface 183 (.int .i64 3) from rfl]
  have B9 := Lib.hid T9.out.end
  go_wp2_with fail
  have kc := code_of w9 3 (by decide) (by decide)
  with_reducible refine kc.mono ?_
  clear kc
  rintro e w' ⟨rfl, rfl⟩
  go_wp2
  go_ret
  exact ⟨rfl, B9.out⟩
set_option maxHeartbeats 16000000 in
theorem checkTells (w : World) (n : Int) (la : Option Addr) (ln lc : Nat) (pa : Option Addr) (pn pc : Nat) (hn : (Lit.int .i64 n).wf = true) (hl : Rd w (.sl shLy) [.slice la ln lc]) (hp : Rd w (.sl (.int .i64)) [.slice pa pn pc]) :
    Calls Try.prog 13 #[.int .i64 n, .slice la ln lc, .slice pa pn pc] w (lawOk w) := by
  obtain ⟨ds, hds, hdl, hok⟩ := rd_lys hl
  obtain ⟨ps, hps⟩ := hp.ints
  obtain ⟨n0, n1⟩ := wfI64 hn
  have hpl := hps.len
  subst hpl
  have p1 := Sl.cap hds; have r1 := Sl.room hds; have p2 := Sl.cap hps.1; have r2 := Sl.room hps.1
  have HD := Lib.hid (And.intro hds (And.intro hdl hok)); have HP := Lib.hid hps
  clear hds hdl hok hl hn hp hps
  go_enter Try.func13, Try.ntmps13
  go_wp2_with fail
  refine (up11 w).mono ?_
  rintro e w1 ⟨rfl, bw1⟩
  have T1 := Lib.hid ((St.start w).below bw1)
  clear bw1
  have B2 := Lib.hid T1.out.end
  by_cases h1 : n < 0
  · have d1 : decide (n < 0) = true := decide_eq_true h1
    go_wp2
    go_ret
    exact ⟨rfl, B2.out⟩
  have d1 : decide (n < 0) = false := decide_eq_false h1
  by_cases h2 : 2000 < n
  · have d2 : decide (n > 2000) = true := decide_eq_true h2
    go_wp2
    go_ret
    exact ⟨rfl, B2.out⟩
  have d2 : decide (n > 2000) = false := decide_eq_false (by omega)
  by_cases h3 : 60 < ln
  · have d3 : decide ((ln : Int) > 60) = true := decide_eq_true (by omega)
    go_wp2
    go_ret
    exact ⟨rfl, B2.out⟩
  have d3 : decide ((ln : Int) > 60) = false := decide_eq_false (by omega)
  by_cases h4 : 30 < ps.length
  · have d4 : decide ((ps.length : Int) > 30) = true := decide_eq_true (by omega)
    go_wp2
    go_ret
    exact ⟨rfl, B2.out⟩
  have d4 : decide ((ps.length : Int) > 30) = false := decide_eq_false (by omega)
  obtain ⟨N, hN⟩ := Int.eq_ofNat_of_zero_le (show 0 ≤ n by omega)
  subst hN
  have hN2 : N ≤ 2000 := by omega
  go_wp2_with fail
  have kc := law_LBytes T1.out (N : Int) N rfl hN2 la ln lc ds HD.out.1 HD.out.2.1 HD.out.2.2 (by omega)
  with_reducible refine kc.mono ?_
  clear kc
  rintro e w2 ⟨v2', b', rfl, hb2', t2⟩
  have T2 := Lib.hid t2
  clear t2
  obtain ⟨a2, c2, rfl, h2'⟩ := T2.out
  rw [hb2'] at h2'
  have H2 := Lib.hid h2'; have HB2 := Lib.hid hb2'
  rw [hb2']
  clear h2' d1 d2 d3 d4 h1 h2 h3 T1 T2 hb2' B2
  go_wp2
  go_loopw [8, 9] (fun vb vi wr => ∃ (k : Nat) (b : List UInt8) (a : Option Addr) (c : Nat), k ≤ ps.length ∧ vi = .int .i64 k ∧ b.length = N ∧ vb = .slice a N c ∧ St w.heap.size w wr [AsO a N c b]) (fun _ vi _ => ps.length - (intOf vi).toNat)
  case atStart => exact ⟨0, b', a2, c2, by omega, rfl, HB2.out, rfl, H2.out⟩
  case round =>
    obtain ⟨k, b, a, c, hk, rfl, hb, rfl, hS⟩ := hrel
    clear H2
    have HB := Lib.hid hb; have HBM := Lib.hid (show b.length ≤ 16384 by omega)
    clear hb
    by_cases hlt : k < ps.length
    · have d2 : decide ((k : Int) < (ps.length : Int)) = true := decide_eq_true (by omega)
      obtain ⟨pb, po, rfl, hcp⟩ := HP.out.at k hlt
      have c1 := hS.argCell hcp
      generalize ps[k] = x at *
      have HS := Lib.hid hS
      clear hcp hS
      go_wp2_with fail
      have kc := rl_Put HS.out (i := 0) rfl HBM.out x
      with_reducible refine kc.mono ?_
      clear kc
      rintro e w8 ⟨v8', rfl, t8⟩
      have T8 := Lib.hid t8
      clear t8
      have hyl : ((putI b x).getD b).length = N := by
        have h8 := T8.out
        obtain ⟨a8, c8, _, h9⟩ := h8
        have := putI_length b x
        rw [this, HB.out]
      obtain ⟨a8, c8, rfl, h9⟩ := T8.out
      rw [hyl] at h9
      rw [hyl]
      have H9 := Lib.hid h9.drop2; have HYL := Lib.hid hyl
      clear h9 hyl
      go_wp2
      exact ⟨⟨k + 1, (putI b x).getD b, a8, c8, hlt, by go_num, HYL.out, rfl, H9.out⟩, by simp [intOf]; omega⟩
    · obtain rfl : k = ps.length := by omega
      have d2 : decide ((ps.length : Int) < (ps.length : Int)) = false := decide_eq_false (by omega)
      have HS := Lib.hid hS
      clear hS
      go_wp2
      clear d2
      rename ∀ (a : Act) (w : World), _ → _ => hkeep
      revert hkeep
      repeat (rename ∀ (a : Act) (w : World), _ → _ => hgx; clear hgx)
      repeat (rename Exit → Act → World → Prop => hgx; clear hgx)
      intro hkeep
      go_loopw [8, 10] (fun vb vi wr => ∃ (k : Nat) (b : List UInt8) (a : Option Addr) (c : Nat), k ≤ 2 ∧ vi = .int .i64 k ∧ b.length = N ∧ vb = .slice a N c ∧ St w.heap.size w wr [AsO a N c b]) (fun _ vi _ => 2 - (intOf vi).toNat)
      case atStart => exact ⟨0, b, a, c, by omega, rfl, HB.out, rfl, HS.out⟩
      case round =>
        clear HS HB HBM
        obtain ⟨k, b, a, c, hk, rfl, hb, rfl, hS⟩ := hrel
        by_cases hlt : k < 2
        · have d2 : decide ((k : Int) < 2) = true := decide_eq_true (by omega)
          have hRL := rebuildB_length (b := b) (by omega)
          have HS := Lib.hid hS; have HB := Lib.hid hb; have HBM := Lib.hid (show b.length ≤ 16384 by omega); have HRL := Lib.hid hRL
          clear hS hb hRL
          go_wp2_with fail
          have kc := ar_Arena HS.out 32 32 rfl 16384 16384 rfl (by decide) (by decide) (by decide) (by decide) a _ c b (HS.out.as (i := 0) rfl) (by have := HBM.out; omega)
          with_reducible refine kc.mono ?_
          clear kc
          rintro e w3 ⟨q, rfl, t3⟩
          have T3 := Lib.hid t3
          clear t3
          have T4 := Lib.hid (show St w.heap.size w w3 (([ArT q ⟨32, 16384, b⟩, AsO a N c b] : List Ob).set 0 (ArT q ⟨32, 16384, b⟩)) from T3.out)
          clear T3
          go_wp2_with fail
          have kc := chk_Check T4.out (Nat.zero_lt_succ 1)
          with_reducible refine kc.mono ?_
          clear kc
          rintro e w5 ⟨r5', rfl, b5', t5⟩
          have T5 := Lib.hid t5
          clear t5
          go_wp2_with fail
          have kc := rl_Check T5.out (i := 1) rfl HBM.out
          with_reducible refine kc.mono ?_
          clear kc
          rintro e w6 ⟨r6', rfl, b6', t6⟩
          have T6 := Lib.hid t6
          clear t6
          have hrr : r6' = r5' := by
            cases h5 : r5' with
            | true => exact b6'.2 (b5'.1 h5)
            | false =>
              cases h6 : r6' with
              | false => rfl
              | true => have := b5'.2 (b6'.1 h6); rw [h5] at this; cases this
          subst hrr
          have H6 := Lib.hid (show St w.heap.size w w6 [ArT q ⟨32, 16384, b⟩, AsO a N c b] from T6.out)
          clear T6 T5 T4 b5' b6'
          obtain ⟨va, hva⟩ := H6.out.drew.ar (i := 0) rfl
          have HVA := Lib.hid (show ArA _ q { base := 32, cap := 16384, b := b } va from hva)
          have HB3 := Lib.hid (H6.out.drew.as (i := 1) rfl)
          clear hva
          cases r6' with
          | true =>
            rw [show chkV true = .nilIface from rfl]
            go_wp2
            refine flowe_begin (F := fun _ => False) hmixed 21 rfl (by repeat (first | with_reducible refine ps_then ?_ | with_reducible refine ps_block ?_ | with_reducible exact ps_body | refine ps_then ?_ | refine ps_block ?_ | exact ps_body)) (fun hps => ?_)
            simp only [List.replicate]
            have kk := (Keep.refl (fun _ => False) (w6)).drew
            refine flowe_take 0 (v := ?_) (a' := ?_) hps rfl (by kernel_rfl) rfl ?_ ?_ ?_
            rotate_left 2
            · intro w' hk; go_simp; try rfl
            · simp only [Act.put, List.setIfInBounds_toArray, List.set_cons_succ, List.set_cons_zero]; try rfl
            refine flowe_take 1 (v := ?_) (a' := ?_) hps rfl (by kernel_rfl) rfl ?_ ?_ ?_
            rotate_left 2
            · intro w' hk; go_simp; try rfl
            · simp only [Act.put, List.setIfInBounds_toArray, List.set_cons_succ, List.set_cons_zero]; try rfl
            refine flowe_take 2 (v := ?_) (a' := ?_) hps rfl (by kernel_rfl) rfl ?_ ?_ ?_
            rotate_left 2
            · intro w' hk; go_simp; try rfl
            · simp only [Act.put, List.setIfInBounds_toArray, List.set_cons_succ, List.set_cons_zero]; try rfl
            refine flowe_take 3 (v := ?_) (a' := ?_) hps rfl (by kernel_rfl) rfl ?_ ?_ ?_
            rotate_left 2
            · intro w' hk; go_simp; try rfl
            · simp only [Act.put, List.setIfInBounds_toArray, List.set_cons_succ, List.set_cons_zero]; try rfl
            refine flowe_take 4 (v := ?_) (a' := ?_) hps rfl (by kernel_rfl) rfl ?_ ?_ ?_
            rotate_left 2
            · intro w' hk; go_simp; try rfl
            · simp only [Act.put, List.setIfInBounds_toArray, List.set_cons_succ, List.set_cons_zero]; try rfl
            refine flowe_take 5 (v := ?_) (a' := ?_) hps rfl (by kernel_rfl) rfl ?_ ?_ ?_
            rotate_left 2
            · intro w' hk; go_simp; try rfl
            · simp only [Act.put, List.setIfInBounds_toArray, List.set_cons_succ, List.set_cons_zero]; try rfl
            refine flowe_take 6 (v := ?_) (a' := ?_) hps rfl (by kernel_rfl) rfl ?_ ?_ ?_
            rotate_left 2
            · intro w' hk; go_simp; try rfl
            · simp only [Act.put, List.setIfInBounds_toArray, List.set_cons_succ, List.set_cons_zero]; try rfl
            refine flowe_take 7 (v := ?_) (a' := ?_) hps rfl (by kernel_rfl) rfl ?_ ?_ ?_
            rotate_left 2
            · intro w' hk; go_simp; try rfl
            · simp only [Act.put, List.setIfInBounds_toArray, List.set_cons_succ, List.set_cons_zero]; try rfl
            refine flowe_skip 8 (a' := ?_) hps rfl (by kernel_rfl) rfl ?_ ?_
            rotate_left 1
            · simp only [Act.put, List.setIfInBounds_toArray, List.set_cons_succ, List.set_cons_zero]; try rfl
            refine flowe_skip 9 (a' := ?_) hps rfl (by kernel_rfl) rfl ?_ ?_
            rotate_left 1
            · simp only [Act.put, List.setIfInBounds_toArray, List.set_cons_succ, List.set_cons_zero]; try rfl
            refine flowe_skip 10 (a' := ?_) hps rfl (by kernel_rfl) rfl ?_ ?_
            rotate_left 1
            · simp only [Act.put, List.setIfInBounds_toArray, List.set_cons_succ, List.set_cons_zero]; try rfl
            refine flowe_take 11 (v := ?_) (a' := ?_) hps rfl (by kernel_rfl) rfl ?_ ?_ ?_
            rotate_left 2
            · intro w' hk; go_simp; try rfl
            · simp only [Act.put, List.setIfInBounds_toArray, List.set_cons_succ, List.set_cons_zero]; try rfl
            refine flowe_take 12 (v := ?_) (a' := ?_) hps rfl (by kernel_rfl) rfl ?_ ?_ ?_
            rotate_left 2
            · intro w' hk; go_simp; try rfl
            · simp only [Act.put, List.setIfInBounds_toArray, List.set_cons_succ, List.set_cons_zero]; try rfl
            refine flowe_take 13 (v := ?_) (a' := ?_) hps rfl (by kernel_rfl) rfl ?_ ?_ ?_
            rotate_left 2
            · intro w' hk; go_simp; try rfl
            · simp only [Act.put, List.setIfInBounds_toArray, List.set_cons_succ, List.set_cons_zero]; try rfl
            refine flowe_take 14 (v := ?_) (a' := ?_) hps rfl (by kernel_rfl) rfl ?_ ?_ ?_
            rotate_left 2
            · intro w' hk; go_simp; try rfl
            · simp only [Act.put, List.setIfInBounds_toArray, List.set_cons_succ, List.set_cons_zero]; try rfl
            refine flowe_take 17 (v := ?_) (a' := ?_) hps rfl (by kernel_rfl) rfl ?_ ?_ ?_
            rotate_left 2
            · intro w' hk; go_simp; try rfl
            · simp only [Act.put, List.setIfInBounds_toArray, List.set_cons_succ, List.set_cons_zero]; try rfl
            refine flowe_take 18 (v := ?_) (a' := ?_) hps rfl (by kernel_rfl) rfl ?_ ?_ ?_
            rotate_left 2
            · intro w' hk; have hs := run_s w' (HB3.out.keep hk (fun _ _ h => h)); go_simp; try rfl
            · simp only [Act.put, List.setIfInBounds_toArray, List.set_cons_succ, List.set_cons_zero]; try rfl
            refine flowe_one 15 hps rfl (by kernel_rfl) rfl (wp_next (fun K hK => ?_))
            go_simp
            with_reducible refine (law_Bytes _ q { base := 32, cap := 16384, b := b } va HVA.out).mono ?_
            rintro e w9 ⟨v9, rfl, o9, b9⟩
            have kp := Keep.of_below (F := fun _ => False) b9
            obtain ⟨a9, c9, rfl, _, hb9⟩ := Sl.of_owned o9
            have HB9 := Lib.hid (show Bs w9 a9 b.length c9 b from hb9)
            clear o9 b9 hb9
            refine hK _ _ (flow_step kk ?_ ?_)
            · first | exact kp | exact Keep.refl _ _ | exact (Keep.refl _ _).alloc _
            clear kk hK; try clear kp
            intro kk
            refine flowe_take 16 (v := ?_) (a' := ?_) hps rfl (by kernel_rfl) rfl ?_ ?_ ?_
            rotate_left 2
            · intro w' hk; have hs := run_s w' (HB9.out.keep hk (fun _ _ h => h)); go_simp; try rfl
            · simp only [Act.put, List.setIfInBounds_toArray, List.set_cons_succ, List.set_cons_zero]; try rfl
            refine flowe_take 19 (v := ?_) (a' := ?_) hps rfl (by kernel_rfl) rfl ?_ ?_ ?_
            rotate_left 2
            · intro w' hk; go_simp; try rfl
            · simp only [Act.put, List.setIfInBounds_toArray, List.set_cons_succ, List.set_cons_zero]; try rfl
            refine flowe_take 20 (v := ?_) (a' := ?_) hps rfl (by kernel_rfl) rfl ?_ ?_ ?_
            rotate_left 2
            · intro w' hk; go_simp; try rfl
            · simp only [Act.put, List.setIfInBounds_toArray, List.set_cons_succ, List.set_cons_zero]; try rfl
            refine flowe_done hps (by kernel_rfl) ?_
            have H9 := Lib.hid (H6.out.below (kk.below (Nat.le_refl _) fun _ _ h => h))
            clear kk
            go_wp2_with fail
            have kc := rl_Rebuild H9.out (i := 1) rfl HBM.out
            with_reducible refine kc.mono ?_
            clear kc
            rintro e wx ⟨vx', rfl, tx⟩
            have TX := Lib.hid tx
            clear tx
            obtain ⟨a8, c8, rfl, h8⟩ := TX.out
            rw [HRL.out, HB.out] at h8
            rw [HRL.out, HB.out]
            have H8 := Lib.hid (h8.sub (List.Sublist.cons_cons _ (List.nil_sublist _)))
            clear h8 TX
            go_wp2
            exact ⟨⟨k + 1, (rebuildB b).getD b, a8, c8, by omega, by go_num, by rw [HRL.out, HB.out], rfl, H8.out⟩, by simp [intOf]; omega⟩
          | false =>
            rw [show chkV false = .iface 183 (.int .i64 3) from rfl]
            go_wp2
            refine flowe_begin (F := fun _ => False) hmixed 21 rfl (by repeat (first | with_reducible refine ps_then ?_ | with_reducible refine ps_block ?_ | with_reducible exact ps_body | refine ps_then ?_ | refine ps_block ?_ | exact ps_body)) (fun hps => ?_)
            simp only [List.replicate]
            have kk := (Keep.refl (fun _ => False) (w6)).drew
            refine flowe_take 0 (v := ?_) (a' := ?_) hps rfl (by kernel_rfl) rfl ?_ ?_ ?_
            rotate_left 2
            · intro w' hk; go_simp; try rfl
            · simp only [Act.put, List.setIfInBounds_toArray, List.set_cons_succ, List.set_cons_zero]; try rfl
            refine flowe_take 1 (v := ?_) (a' := ?_) hps rfl (by kernel_rfl) rfl ?_ ?_ ?_
            rotate_left 2
            · intro w' hk; go_simp; try rfl
            · simp only [Act.put, List.setIfInBounds_toArray, List.set_cons_succ, List.set_cons_zero]; try rfl
            refine flowe_take 2 (v := ?_) (a' := ?_) hps rfl (by kernel_rfl) rfl ?_ ?_ ?_
            rotate_left 2
            · intro w' hk; go_simp; try rfl
            · simp only [Act.put, List.setIfInBounds_toArray, List.set_cons_succ, List.set_cons_zero]; try rfl
            refine flowe_take 3 (v := ?_) (a' := ?_) hps rfl (by kernel_rfl) rfl ?_ ?_ ?_
            rotate_left 2
            · intro w' hk; go_simp; try rfl
            · simp only [Act.put, List.setIfInBounds_toArray, List.set_cons_succ, List.set_cons_zero]; try rfl
            refine flowe_take 4 (v := ?_) (a' := ?_) hps rfl (by kernel_rfl) rfl ?_ ?_ ?_
            rotate_left 2
            · intro w' hk; go_simp; try rfl
            · simp only [Act.put, List.setIfInBounds_toArray, List.set_cons_succ, List.set_cons_zero]; try rfl
            refine flowe_take 5 (v := ?_) (a' := ?_) hps rfl (by kernel_rfl) rfl ?_ ?_ ?_
            rotate_left 2
            · intro w' hk; go_simp; try rfl
            · simp only [Act.put, List.setIfInBounds_toArray, List.set_cons_succ, List.set_cons_zero]; try rfl
            refine flowe_take 6 (v := ?_) (a' := ?_) hps rfl (by kernel_rfl) rfl ?_ ?_ ?_
            rotate_left 2
            · intro w' hk; go_simp; try rfl
            · simp only [Act.put, List.setIfInBounds_toArray, List.set_cons_succ, List.set_cons_zero]; try rfl
            refine flowe_take 7 (v := ?_) (a' := ?_) hps rfl (by kernel_rfl) rfl ?_ ?_ ?_
            rotate_left 2
            · intro w' hk; go_simp; try rfl
            · simp only [Act.put, List.setIfInBounds_toArray, List.set_cons_succ, List.set_cons_zero]; try rfl
            refine flowe_take 8 (v := ?_) (a' := ?_) hps rfl (by kernel_rfl) rfl ?_ ?_ ?_
            rotate_left 2
            · intro w' hk; go_simp; try rfl
            · simp only [Act.put, List.setIfInBounds_toArray, List.set_cons_succ, List.set_cons_zero]; try rfl
            refine flowe_one 9 hps rfl (by kernel_rfl) rfl (wp_next (fun K hK => ?_))
            go_simp
            with_reducible refine (code_of _ 3 (by decide) (by decide)).mono ?_
            rintro e w' ⟨rfl, rfl⟩
            refine hK _ _ (flow_step kk ?_ ?_)
            · first | exact kp | exact Keep.refl _ _ | exact (Keep.refl _ _).alloc _
            clear kk hK; try clear kp
            intro kk
            refine flowe_take 10 (v := ?_) (a' := ?_) hps rfl (by kernel_rfl) rfl ?_ ?_ ?_
            rotate_left 2
            · intro w' hk; go_simp; try rfl
            · simp only [Act.put, List.setIfInBounds_toArray, List.set_cons_succ, List.set_cons_zero]; try rfl
            refine flowe_take 11 (v := ?_) (a' := ?_) hps rfl (by kernel_rfl) rfl ?_ ?_ ?_
            rotate_left 2
            · intro w' hk; go_simp; try rfl
            · simp only [Act.put, List.setIfInBounds_toArray, List.set_cons_succ, List.set_cons_zero]; try rfl
            refine flowe_take 12 (v := ?_) (a' := ?_) hps rfl (by kernel_rfl) rfl ?_ ?_ ?_
            rotate_left 2
            · intro w' hk; go_simp; try rfl
            · simp only [Act.put, List.setIfInBounds_toArray, List.set_cons_succ, List.set_cons_zero]; try rfl
            refine flowe_take 13 (v := ?_) (a' := ?_) hps rfl (by kernel_rfl) rfl ?_ ?_ ?_
            rotate_left 2
            · intro w' hk; go_simp; try rfl
            · simp only [Act.put, List.setIfInBounds_toArray, List.set_cons_succ, List.set_cons_zero]; try rfl
            refine flowe_take 14 (v := ?_) (a' := ?_) hps rfl (by kernel_rfl) rfl ?_ ?_ ?_
            rotate_left 2
            · intro w' hk; go_simp; try rfl
            · simp only [Act.put, List.setIfInBounds_toArray, List.set_cons_succ, List.set_cons_zero]; try rfl
            refine flowe_take 17 (v := ?_) (a' := ?_) hps rfl (by kernel_rfl) rfl ?_ ?_ ?_
            rotate_left 2
            · intro w' hk; go_simp; try rfl
            · simp only [Act.put, List.setIfInBounds_toArray, List.set_cons_succ, List.set_cons_zero]; try rfl
            refine flowe_take 18 (v := ?_) (a' := ?_) hps rfl (by kernel_rfl) rfl ?_ ?_ ?_
            rotate_left 2
            · intro w' hk; have hs := run_s w' (HB3.out.keep hk (fun _ _ h => h)); go_simp; try rfl
            · simp only [Act.put, List.setIfInBounds_toArray, List.set_cons_succ, List.set_cons_zero]; try rfl
            refine flowe_one 15 hps rfl (by kernel_rfl) rfl (wp_next (fun K hK => ?_))
            go_simp
            with_reducible refine (law_Bytes _ q { base := 32, cap := 16384, b := b } va HVA.out).mono ?_
            rintro e w9 ⟨v9, rfl, o9, b9⟩
            have kp := Keep.of_below (F := fun _ => False) b9
            obtain ⟨a9, c9, rfl, _, hb9⟩ := Sl.of_owned o9
            have HB9 := Lib.hid (show Bs w9 a9 b.length c9 b from hb9)
            clear o9 b9 hb9
            refine hK _ _ (flow_step kk ?_ ?_)
            · first | exact kp | exact Keep.refl _ _ | exact (Keep.refl _ _).alloc _
            clear kk hK; try clear kp
            intro kk
            refine flowe_take 16 (v := ?_) (a' := ?_) hps rfl (by kernel_rfl) rfl ?_ ?_ ?_
            rotate_left 2
            · intro w' hk; have hs := run_s w' (HB9.out.keep hk (fun _ _ h => h)); go_simp; try rfl
            · simp only [Act.put, List.setIfInBounds_toArray, List.set_cons_succ, List.set_cons_zero]; try rfl
            refine flowe_take 19 (v := ?_) (a' := ?_) hps rfl (by kernel_rfl) rfl ?_ ?_ ?_
            rotate_left 2
            · intro w' hk; go_simp; try rfl
            · simp only [Act.put, List.setIfInBounds_toArray, List.set_cons_succ, List.set_cons_zero]; try rfl
            refine flowe_take 20 (v := ?_) (a' := ?_) hps rfl (by kernel_rfl) rfl ?_ ?_ ?_
            rotate_left 2
            · intro w' hk; go_simp; try rfl
            · simp only [Act.put, List.setIfInBounds_toArray, List.set_cons_succ, List.set_cons_zero]; try rfl
            refine flowe_done hps (by kernel_rfl) ?_
            have H9 := Lib.hid (H6.out.below (kk.below (Nat.le_refl _) fun _ _ h => h))
            clear kk
            go_wp2_with fail
            have kc := rl_Rebuild H9.out (i := 1) rfl HBM.out
            with_reducible refine kc.mono ?_
            clear kc
            rintro e wx ⟨vx', rfl, tx⟩
            have TX := Lib.hid tx
            clear tx
            obtain ⟨a8, c8, rfl, h8⟩ := TX.out
            rw [HRL.out, HB.out] at h8
            rw [HRL.out, HB.out]
            have H8 := Lib.hid (h8.sub (List.Sublist.cons_cons _ (List.nil_sublist _)))
            clear h8 TX
            go_wp2
            exact ⟨⟨k + 1, (rebuildB b).getD b, a8, c8, by omega, by go_num, by rw [HRL.out, HB.out], rfl, H8.out⟩, by simp [intOf]; omega⟩
        · obtain rfl : k = 2 := by omega
          have d2 : decide (((2 : Nat) : Int) < 2) = false := by decide
          have B9 := Lib.hid hS.end
          clear hS
          go_wp2
          go_ret
          exact ⟨rfl, B9.out⟩
end Go.Proofs.Ytjijniillehfoaa

/- An arena that is right is none with a byte of its first 184 turned, nor with a tag turned. No program. -/
namespace Go.Own
theorem Seg.prev {b : List UInt8} {o : Nat} : ∀ {l : List Nat} {p q p' q' : Nat}, Seg b p q l p' q' → o ∈ l → (o = q ∧ numAt b (o + 16) = p) ∨ ∃ o2 ∈ l, numAt b (o + 16) = o2
  | [], _, _, _, _, _, h => by cases h
  | a :: l, p, q, p', q', h, ho => by
    obtain ⟨h1, h2, h3⟩ := h
    rcases List.mem_cons.1 ho with rfl | ho
    · exact .inl ⟨h1.symm, h2⟩
    · rcases Seg.prev h3 ho with ⟨_, h5⟩ | ⟨o2, h4, h5⟩
      · exact .inr ⟨a, List.mem_cons_self .., h5⟩
      · exact .inr ⟨o2, List.mem_cons_of_mem _ h4, h5⟩
theorem numAt_tail {b b' : List UInt8} {k : Nat} (hl : b'.length = b.length) (h : b'.drop k = b.drop k) {t : Nat} (ht : k ≤ t) : numAt b' t = numAt b t := by
  unfold numAt
  have : b'.drop t = b.drop t := by
    have e : t = k + (t - k) := by omega
    rw [e, ← List.drop_drop, ← List.drop_drop, h]
  rw [hl, this]
theorem blkAt_tail {b b' : List UInt8} (hl : b'.length = b.length) (h : b'.drop 184 = b.drop 184) (o : Nat) : blkAt b' o = blkAt b o := by
  by_cases ho : 184 ≤ o
  · unfold blkAt
    rw [numAt_tail hl h ho, hl]
    by_cases ht : isTag (numAt b o) = true
    · have := tagS_isTag ht
      rw [numAt_tail hl h (t := o + (tagS (numAt b o)).toNat - 8) (by omega)]
    · rw [if_neg (fun hh => ht hh.2.2.1), if_neg (fun hh => ht hh.2.2.1)]
  · unfold blkAt
    rw [if_neg (fun hh => ho hh.1), if_neg (fun hh => ho hh.1)]
theorem tile_tail {b b' : List UInt8} (hl : b'.length = b.length) (h : b'.drop 184 = b.drop 184) : ∀ {bs : List Blk} {o : Nat}, Tile b' o bs → Tile b o bs
  | [], o, ht => by have : o = b'.length := ht; show o = b.length; omega
  | x :: bs, o, ht => ⟨by rw [← blkAt_tail hl h]; exact ht.1, tile_tail hl h ht.2⟩
theorem eq_of_bits {a b : Nat} (ha : a < 4194304) (hb : b < 4194304) (h : ∀ c, c < 22 → bitAt a c = bitAt b c) : a = b := by
  refine Nat.eq_of_testBit_eq fun i => ?_
  by_cases hi : i < 22
  · rw [← bitAt_test, ← bitAt_test]; exact h i hi
  · have hp : 4194304 ≤ 2 ^ i := Nat.pow_le_pow_right (n := 2) (by decide) (show 22 ≤ i by omega)
    rw [Nat.testBit_lt_two_pow (Nat.lt_of_lt_of_le ha hp), Nat.testBit_lt_two_pow (Nat.lt_of_lt_of_le hb hp)]
theorem take_words {b b' : List UInt8} (hl : b'.length = b.length) : ∀ (j : Nat), 8 * j ≤ b.length → (∀ i, i < j → numAt b' (8 * i) = numAt b (8 * i)) → b'.take (8 * j) = b.take (8 * j)
  | 0, _, _ => rfl
  | j + 1, hj, h => by
    have ih := take_words hl j (by omega) fun i hi => h i (by omega)
    have hw := h j (by omega)
    unfold numAt at hw
    rw [hl, if_pos (by omega), if_pos (by omega)] at hw
    have e : ∀ l : List UInt8, l.take (8 * (j + 1)) = l.take (8 * j) ++ (l.drop (8 * j)).take 8 := fun l => by rw [show 8 * (j + 1) = 8 * j + 8 by omega, List.take_add]
    have hn : ∀ l : List UInt8, l.length = b.length → ((l.drop (8 * j)).take 8).length = 8 := fun l h => by rw [List.length_take, List.length_drop]; omega
    have h1 := low_num ((b'.drop (8 * j)).take 8); have h2 := low_num ((b.drop (8 * j)).take 8)
    rw [hn b' hl] at h1
    rw [hn b rfl] at h2
    rw [e, e, ih, ← h1, hw, h2]
/-- What stands ahead of the blocks is told by them and their lists. -/
theorem right_head {b b' : List UInt8} {bs bs' : List Blk} {ls ls' : Nat → List Nat} (h : Right b bs ls) (h' : Right b' bs' ls') (hl : b'.length = b.length) (ht : b'.drop 184 = b.drop 184) : b' = b := by
  have hbs : bs' = bs := by
    have t1 := tile_tail hl ht (tile_to.2 h'.tile)
    have t2 := (walkB_tile b bs').2 ⟨h.len, t1⟩
    rw [h.walk] at t2
    exact (Option.some.inj t2).symm
  subst hbs
  have hin : ∀ c, c < 22 → ∀ o, o ∈ ls c ↔ o ∈ ls' c := fun c hc o => by
    constructor
    · intro ho
      obtain ⟨x, hx, h1, h2, h3⟩ := h.lists.mem c hc o ho
      have := h'.cover x hx h2
      rw [h1] at this
      unfold clsN at this
      rw [h3] at this
      exact this
    · intro ho
      obtain ⟨x, hx, h1, h2, h3⟩ := h'.lists.mem c hc o ho
      have := h.cover x hx h2
      rw [h1] at this
      unfold clsN at this
      rw [h3] at this
      exact this
  have hnil : ∀ c, c < 22 → (ls c ≠ [] ↔ ls' c ≠ []) := fun c hc => by
    constructor
    · intro hn e
      cases hq : ls c with
      | nil => exact hn hq
      | cons o r => have := (hin c hc o).1 (by rw [hq]; exact List.mem_cons_self ..); rw [e] at this; cases this
    · intro hn e
      cases hq : ls' c with
      | nil => exact hn hq
      | cons o r => have := (hin c hc o).2 (by rw [hq]; exact List.mem_cons_self ..); rw [e] at this; cases this
  have hh : ∀ c, c < 22 → numAt b' (headO c) = numAt b (headO c) := fun c hc => by
    by_cases hn : ls c = []
    · have hn' : ls' c = [] := Classical.byContradiction fun e => (hnil c hc).2 e hn
      have e1 := h.lists.head hc; have e2 := h'.lists.head hc
      rw [hn] at e1; rw [hn'] at e2
      rw [e1, e2]
    · obtain ⟨z, hs⟩ := h.lists.seg c hc
      obtain ⟨z', hs'⟩ := h'.lists.seg c hc
      have hn' := (hnil c hc).1 hn
      cases hq : ls' c with
      | nil => exact absurd hq hn'
      | cons o r =>
        rw [hq] at hs'
        obtain ⟨g1, g2, _⟩ := hs'
        have hmo : o ∈ ls c := (hin c hc o).2 (by rw [hq]; exact List.mem_cons_self ..)
        have hp := h.lists.place h.good hc hmo
        rw [numAt_tail hl ht (by omega)] at g2
        rcases hs.prev hmo with ⟨g3, _⟩ | ⟨o2, g3, g4⟩
        · rw [g1, g3]
        · have := h.lists.place h.good hc g3
          omega
  have h0 : numAt b' 0 = numAt b 0 := eq_of_bits h'.lists.w0 h.lists.w0 fun c hc => by
    rw [h'.lists.bit c hc, h.lists.bit c hc]
    by_cases hn : ls c = []
    · have hn' : ls' c = [] := Classical.byContradiction fun e => (hnil c hc).2 e hn
      rw [hn, hn']
    · rw [decide_eq_true hn, decide_eq_true ((hnil c hc).1 hn)]
  have htk := take_words hl 23 (by have := h.len; omega) fun i hi => by
    by_cases hi0 : i = 0
    · subst hi0; exact h0
    · obtain ⟨j, rfl⟩ : ∃ j, i = j + 1 := ⟨i - 1, by omega⟩
      have := hh j (by omega)
      unfold headO at this
      rw [show 8 * (j + 1) = 8 + 8 * j by omega]
      exact this
  rw [← List.take_append_drop 184 b', ← List.take_append_drop 184 b, ht]
  congr 1
theorem set_turn {b : List UInt8} {k : Nat} (hk : k < b.length) {x : UInt8} (hx : x ≠ 0) : b.set k (b[k] ^^^ x) ≠ b := by
  intro e
  have h1 : (b.set k (b[k] ^^^ x))[k]? = b[k]? := by rw [e]
  rw [List.getElem?_set_self hk, List.getElem?_eq_getElem hk, Option.some.injEq] at h1
  have h2 : b[k] ^^^ (b[k] ^^^ x) = b[k] ^^^ b[k] := by rw [h1]
  rw [← UInt8.xor_assoc, UInt8.xor_self, UInt8.zero_xor] at h2
  exact hx h2
/-- With a byte of the first 184 turned an arena that is right is none. -/
theorem not_right_head {b : List UInt8} {bs : List Blk} {ls : Nat → List Nat} (h : Right b bs ls) {k : Nat} (hk : k < 184) {x : UInt8} (hx : x ≠ 0) : ¬ IsRight (b.set k (b[k]'(Nat.lt_of_lt_of_le hk h.len) ^^^ x)) := by
  rintro ⟨bs', ls', hR, _⟩
  have hkl : k < b.length := Nat.lt_of_lt_of_le hk h.len
  exact set_turn hkl hx (right_head h hR (List.length_set ..) (by rw [List.drop_set_of_lt hk]))
/-! ### A tag turned -/
theorem numAt_set {b : List UInt8} {k t : Nat} {x : UInt8} (h : t + 8 ≤ k ∨ k < t) : numAt (b.set k x) t = numAt b t := by
  unfold numAt
  rw [List.length_set]
  rcases h with h | h
  · by_cases h1 : t + 8 ≤ b.length
    · rw [if_pos h1, if_pos h1]
      have e : ∀ l : List UInt8, (l.drop t).take 8 = (l.take (t + 8)).drop t := fun l => by rw [List.drop_take]; congr 1; omega
      rw [e, e, List.take_set_of_le h]
    · rw [if_neg h1, if_neg h1]
  · rw [List.drop_set_of_lt h]
theorem numAt_turn {b : List UInt8} {k : Nat} (hk : k + 8 ≤ b.length) {x : UInt8} (hx : x ≠ 0) : numAt (b.set k (b[k]'(by omega) ^^^ x)) k ≠ numAt b k := by
  intro e
  unfold numAt at e
  rw [List.length_set, if_pos hk, if_pos hk] at e
  have h1 := low_num (((b.set k (b[k]'(by omega) ^^^ x)).drop k).take 8); have h2 := low_num ((b.drop k).take 8)
  rw [show (((b.set k (b[k]'(by omega) ^^^ x)).drop k).take 8).length = 8 by rw [List.length_take, List.length_drop, List.length_set]; omega] at h1
  rw [show ((b.drop k).take 8).length = 8 by rw [List.length_take, List.length_drop]; omega] at h2
  rw [e, h2] at h1
  have h3 := congrArg (·[0]?) h1
  simp only [List.getElem?_take, List.getElem?_drop, Nat.add_zero] at h3
  rw [if_pos (by decide), if_pos (by decide), List.getElem?_set_self (by omega), List.getElem?_eq_getElem (by omega), Option.some.injEq] at h3
  have h4 : b[k]'(by omega) ^^^ (b[k]'(by omega) ^^^ x) = b[k]'(by omega) ^^^ b[k]'(by omega) := by rw [← h3]
  rw [← UInt8.xor_assoc, UInt8.xor_self, UInt8.zero_xor] at h4
  exact hx h4
theorem TileTo.split {b : List UInt8} {e m : Nat} : ∀ {pre l : List Blk} {o : Nat}, TileTo b m o pre → TileTo b e o l → m < e → ∃ x, blkAt b m = some x
  | [], l, o, h1, h2, hlt => by
    have h1 : o = m := h1
    subst h1
    cases l with
    | nil => have : o = e := h2; omega
    | cons x l => exact ⟨x, h2.1⟩
  | y :: pre, l, o, h1, h2, hlt => by
    have := h1.2.le
    cases l with
    | nil => have : o = e := h2; omega
    | cons x l =>
      have e1 := h1.1
      rw [h2.1] at e1
      cases e1
      exact TileTo.split h1.2 h2.2 hlt
/-- What stands at multiples of 16 where blocks were laid over zeros. -/
theorem setAll_num : ∀ {l : List Blk} {o : Nat} {b : List UInt8} (p : Nat), Chain o l → endOf o l ≤ b.length → o % 16 = 8 → p % 16 = 0 → (∃ y ∈ l, p = y.off + y.size - 8 ∧ numAt (setAll b l) p = tagB y) ∨ numAt (setAll b l) p = numAt b p
  | [], _, _, _, _, _, _, _ => .inr rfl
  | x :: l, o, b, p, hc, he, ho, hp => by
    have hx := (isSize_iff _).1 hc.2.1
    have hxo := hc.1
    have hle := endOf_ge l (o + x.size)
    have he' : endOf (o + x.size) l ≤ b.length := he
    have hl : (setB b x).length = b.length := setB_length b x (by omega) (by omega)
    rcases setAll_num (b := setB b x) p hc.2.2 (by rw [hl]; exact he) (by omega) hp with ⟨y, hy, h1, h2⟩ | h1
    · exact .inl ⟨y, List.mem_cons_of_mem _ hy, h1, h2⟩
    · have ht := tagOf_rng x.size x.used
      have htb : tagB x < 18446744073709551616 := by unfold tagB; omega
      by_cases hq : p = x.off + x.size - 8
      · refine .inl ⟨x, List.mem_cons_self .., hq, ?_⟩
        show numAt (setAll (setB b x) l) p = _
        rw [h1]
        unfold setB
        rw [hq, numAt_same _ _ _ (by rw [layAt_length _ _ _ (by omega)]; omega) htb]
      · refine .inr ?_
        show numAt (setAll (setB b x) l) p = _
        rw [h1]
        unfold setB
        rw [numAt_lay _ _ _ _ (by rw [layAt_length _ _ _ (by omega)]; omega) htb (by omega), if_neg hq, numAt_lay _ _ _ _ (by omega) htb (by omega), if_neg (by omega)]
/-- Of what was laid over zeros, and its lists made anew: a tag at a multiple of 16 is a block's second. -/
theorem tag_at {n : Nat} {b : List UInt8} {bs : List Blk} {ls : Nat → List Nat} (hc : Chain 184 bs) (he : endOf 184 bs = n) (ht : Touch (LinkW bs) (setAll (List.replicate n 0) bs) b) (h : Right b bs ls) {p : Nat} (hp : p % 16 = 0) (h1 : 184 ≤ p) (htag : isTag (numAt b p) = true) :
    ∃ y ∈ bs, p = y.off + y.size - 8 ∧ numAt b p = tagB y := by
  by_cases hlk : ∃ x ∈ bs, x.used = false ∧ p = x.off + 8
  · exfalso
    obtain ⟨x, hx, hu, rfl⟩ := hlk
    have hcx := (clsN_lt (h.good.mem hx).2.1).1
    have hm := h.cover x hx hu
    obtain ⟨z, hs⟩ := h.lists.seg _ hcx
    obtain ⟨l1, l2, hl⟩ := List.append_of_mem hm
    rw [hl] at hs
    obtain ⟨m, k, _, _, _, g3⟩ := Seg.append.1 hs
    have hz : numAt b (x.off + 8) = 0 ∨ numAt b (x.off + 8) % 16 = 8 := by
      cases l2 with
      | nil => exact .inl g3.2.symm
      | cons o r =>
        rw [g3.1]
        exact .inr (h.lists.place h.good hcx (o := o) (by rw [hl]; simp)).2.1
    rw [isTag_head hz] at htag
    cases htag
  · have hn : numAt b p = numAt (setAll (List.replicate n 0) bs) p := ht.num p fun t ht' => by
      rcases ht' with h2 | ⟨x, hx, hu, h2⟩
      · omega
      · have := blkAt_some (h.good.mem hx).2.1
        have hne : p ≠ x.off + 8 := fun e => hlk ⟨x, hx, hu, e⟩
        rcases h2 with h2 | h2 <;> omega
    rw [hn] at htag ⊢
    rcases setAll_num (b := List.replicate n 0) p hc (by rw [List.length_replicate]; omega) (by decide) hp with h2 | h2
    · exact h2
    · exfalso
      rw [h2] at htag
      have : numAt (List.replicate n (0 : UInt8)) p = 0 := by
        unfold numAt
        rw [List.length_replicate]
        split
        · rw [List.drop_replicate, List.take_replicate, show min 8 (n - p) = 8 by omega]; rfl
        · rfl
      rw [this] at htag
      revert htag; decide
/-- With the first byte of a block's first tag turned it is not right. -/
theorem not_right_tag {n : Nat} {b : List UInt8} {bs : List Blk} {ls : Nat → List Nat} (hc : Chain 184 bs) (he : endOf 184 bs = n) (ht : Touch (LinkW bs) (setAll (List.replicate n 0) bs) b) (h : Right b bs ls) {x : Blk} (hx : x ∈ bs) (hk : x.off < b.length) {y : UInt8} (hy : y ≠ 0) : ¬ IsRight (b.set x.off (b[x.off] ^^^ y)) := by
  rintro ⟨bs', ls', hR, _⟩
  obtain ⟨pre, post, rfl⟩ := List.append_of_mem hx
  obtain ⟨m, t1, t2⟩ := TileTo.append.1 h.tile
  have hxs := blkAt_some t2.1
  have hm : x.off = m := hxs.1
  have hpre : TileTo (b.set x.off (b[x.off] ^^^ y)) m 184 pre := by
    have : ∀ {l : List Blk} {o : Nat}, TileTo b m o l → TileTo (b.set x.off (b[x.off] ^^^ y)) m o l := by
      intro l
      induction l with
      | nil => intro o h; exact h
      | cons z l ih =>
        intro o h
        have hz := blkAt_some h.1
        have hle := h.2.le
        refine ⟨?_, ih h.2⟩
        have hzo : z = ⟨o, z.size, z.used⟩ := by cases z; simp only at hz; rw [hz.1]
        rw [hzo]
        have hzt : numAt b o = (tagOf z.size z.used).toNat := hz.2.2.2.2.2.2.2.2.2.2.2
        exact blkAt_mk hz.2.1 hz.2.2.1 (blkAt_isSize h.1) (by rw [List.length_set]; omega) (by rw [numAt_set (by omega)]; exact hzt) (by rw [numAt_set (by omega), hz.2.2.2.2.2.2.2.2.2.2.1]; exact hzt)
    exact this t1
  have hlen : (b.set x.off (b[x.off] ^^^ y)).length = b.length := List.length_set ..
  obtain ⟨z, hz⟩ := TileTo.split hpre hR.tile (by rw [hlen]; omega)
  have hzs := blkAt_some hz
  rw [← hm] at hz hzs
  have hne := numAt_turn (b := b) (k := x.off) (by omega) hy
  have hzt := hzs.2.2.2.2.2.2.2.2.2.2.1
  have hset : numAt (b.set x.off (b[x.off] ^^^ y)) (x.off + z.size - 8) = numAt b (x.off + z.size - 8) := numAt_set (by omega)
  rw [hset] at hzt
  obtain ⟨y2, hy2, e1, e2⟩ := tag_at hc he ht h (p := x.off + z.size - 8) (by omega) (by omega) (by rw [hzt]; exact hzs.2.2.2.2.2.2.2.1)
  have hys := blkAt_some (h.good.mem hy2).2.1
  have hsz : y2.size = z.size := by
    have e3 : numAt (b.set x.off (b[x.off] ^^^ y)) x.off = tagB y2 := by rw [← hzt, e2]
    have e4 := hzs.2.2.2.2.2.2.2.2.1
    rw [e3] at e4
    have e5 := hys.2.2.2.2.2.2.2.2.1
    rw [hys.2.2.2.2.2.2.2.2.2.2.2] at e5
    omega
  have hoff : y2.off = x.off := by omega
  have e6 := (h.good.mem hy2).2.1
  rw [hoff, (h.good.mem hx).2.1] at e6
  cases e6
  refine hne ?_
  rw [← hzt, e2, hxs.2.2.2.2.2.2.2.2.2.2.2.symm, hm]
end Go.Own

/- Layer 10: behind Rebuild the lists have just the free blocks; what Find tells. -/
namespace Go.Own
/-- Is there a free block with so many bytes? -/
def roomB (S : Nat) (L : List Blk) : Bool := L.any fun x => !x.used && decide (S ≤ x.size)
def foundB (S o : Nat) (L : List Blk) : Bool := decide (o = 0) || L.any fun x => decide (x.off = o) && (!x.used && decide (S ≤ x.size))
theorem roomB_snoc (S : Nat) (L : List Blk) (x : Blk) : roomB S (L ++ [x]) = (roomB S L || (!x.used && decide (S ≤ x.size))) := by unfold roomB; rw [List.any_append]; simp
theorem foundB_snoc (S o : Nat) (L : List Blk) (x : Blk) : foundB S o (L ++ [x]) = (foundB S o L || (decide (x.off = o) && (!x.used && decide (S ≤ x.size)))) := by unfold foundB; rw [List.any_append, ← Bool.or_assoc]; simp
theorem find_room {b : List UInt8} {bs : List Blk} {ls : Nat → List Nat} (h : Right b bs ls) {S : Nat} (hs : isSize S = true) :
    foundB S ((findL bs ls S).getD 0) bs = true ∧ decide ((findL bs ls S).getD 0 ≠ 0) = roomB S bs := by
  cases hq : findL bs ls S with
  | none =>
    refine ⟨by unfold foundB; simp, ?_⟩
    have : roomB S bs = false := by
      unfold roomB
      rw [List.any_eq_false]
      intro x hx
      cases hu : x.used with
      | true => simp
      | false => have := findL_none h hs hq hx hu; simp; omega
    rw [this]; rfl
  | some o =>
    obtain ⟨x, hx, rfl, hu, hle, h0⟩ := findL_some h hs hq
    have h1 : roomB S bs = true := by unfold roomB; rw [List.any_eq_true]; exact ⟨x, hx, by simp [hu, hle]⟩
    refine ⟨?_, by rw [h1]; simpa using h0⟩
    unfold foundB
    have : (bs.any fun y => decide (y.off = (some x.off).getD 0) && (!y.used && decide (S ≤ y.size))) = true := by rw [List.any_eq_true]; exact ⟨x, hx, by simp [hu, hle]⟩
    rw [this]; simp
end Go.Own
namespace Go.Proofs.Ytjijniillehfoaa
open Go Go.RowKit Go.Own
set_option linter.unusedVariables false
set_option maxRecDepth 100000
set_option maxHeartbeats 8000000 in
theorem fitAll (w : World) (sa : Option Addr) (sn sc : Nat) (ua : Option Addr) (un uc : Nat) (size : Int) (hz : Rd w (.sl (.int .i64)) [.slice sa sn sc]) (hu : Rd w (.sl .bool) [.slice ua un uc]) (hsz : (Lit.int .i64 size).wf = true) :
    Calls Try.prog 15 #[.slice sa sn sc, .slice ua un uc, .int .i64 size] w (lawOk w) := by
  obtain ⟨zs, hzs⟩ := hz.ints
  obtain ⟨us, hus⟩ := hu.bools
  obtain ⟨z0, z1⟩ := wfI64 hsz
  have hn := hzs.len; have hm := hus.len
  subst hn; subst hm
  have p1 := Sl.cap hzs.1; have r1 := Sl.room hzs.1; have p2 := Sl.cap hus; have r2 := Sl.room hus
  have HZ := Lib.hid hzs; have HU := Lib.hid hus
  clear hz hu hzs hus hsz
  go_enter Try.func15, Try.ntmps15
  go_wp2_with fail
  refine (up10 w).mono ?_
  rintro e w1 ⟨rfl, bw1⟩
  have T1 := Lib.hid ((St.start w).below bw1)
  clear bw1
  by_cases hl : zs.length > 40
  · have B2 := Lib.hid T1.out.end
    go_wp2
    go_ret
    exact ⟨rfl, B2.out⟩
  have hl6 : zs.length ≤ 40 := by omega
  have T2 := Lib.hid (show St w.heap.size w w1 (BlsO (.slice none 0 0) [] :: []) from T1.out.addOwn (Below.refl _ _) (World.ownsRow_nil _ _ _ _))
  clear T1 hl
  go_wp2
  go_loopw [8, 9, 10] (fun vl vo vi wr => ∃ (k : Nat) (L : List Blk), k ≤ zs.length ∧ vi = .int .i64 k ∧ vo = .int .i64 (endOf 184 L : Nat) ∧ L.length = k ∧ Chain 184 L ∧ endOf 184 L ≤ 184 + 336 * k ∧ St w.heap.size w wr (BlsO vl L :: [])) (fun _ _ vi _ => zs.length - (intOf vi).toNat)
  case atStart => exact ⟨0, [], Nat.zero_le _, rfl, rfl, rfl, trivial, Nat.le_refl _, T2.out⟩
  case round =>
    clear T2
    obtain ⟨k, L, hk, rfl, rfl, hL, hch, hend, hS⟩ := hrel
    have HCH := Lib.hid hch
    clear hch
    by_cases hlt : k < zs.length
    · obtain ⟨zb, zo, rfl, hcz⟩ := HZ.out.at k hlt
      have hzw := wfI64 (HZ.out.2 zs[k] (List.getElem_mem hlt))
      have c1 := hS.argCell hcz
      generalize zs[k] = z at *
      have hL2 : L.length ≤ 1000000 := by omega
      have HS := Lib.hid hS; have HL := Lib.hid hL
      obtain ⟨E, hE⟩ : ∃ E, E = endOf 184 L := ⟨_, rfl⟩
      have HE := Lib.hid hE
      rw [← hE] at hend ⊢
      clear hS hcz hL hE
      go_wp2_with fail
      have kc := law_Pick wr z 20 hzw.1 hzw.2 (by decide) (by decide)
      have q0 := Int.emod_nonneg z (show (20 : Int) ≠ 0 by decide)
      have q1 := Int.emod_lt_of_pos z (show (0 : Int) < 20 by decide)
      obtain ⟨q, hq⟩ := Int.eq_ofNat_of_zero_le q0
      rw [hq] at kc q1
      with_reducible refine kc.mono ?_
      clear kc hq q0 hzw c1
      rintro e w' ⟨rfl, rfl⟩
      obtain ⟨N, hN⟩ : ∃ N : Nat, N = 32 + 16 * q := ⟨_, rfl⟩
      have m1 : IntKind.i64.wrap (16 * (q : Int)) = 16 * (q : Int) := IntWalk.i64_in _ (by omega)
      have m2 : IntKind.i64.wrap (32 + 16 * (q : Int)) = (N : Int) := by rw [IntWalk.i64_in _ (by omega)]; omega
      have m3 : IntKind.i64.wrap ((E : Int) + (N : Int)) = ((E + N : Nat) : Int) := by rw [IntWalk.i64_in _ (by omega)]; omega
      have hNs : isSize (N : Int) = true := isSize_yes (by omega)
      have hN2 : N ≤ 336 := by omega
      have HNS := Lib.hid hNs
      clear hN hNs
      have fin : ∀ (x : Blk) (v' : Value) (w' : World), x.off = E → x.size = N → St w.heap.size w w' (BlsO v' (L ++ [x]) :: []) →
          ∃ (k' : Nat) (L' : List Blk), k' ≤ zs.length ∧ (Value.int .i64 ((k + 1 : Nat) : Int)) = .int .i64 k' ∧ (Value.int .i64 ((E + N : Nat) : Int)) = .int .i64 (endOf 184 L' : Nat) ∧ L'.length = k' ∧ Chain 184 L' ∧ endOf 184 L' ≤ 184 + 336 * k' ∧ St w.heap.size w w' (BlsO v' L' :: []) := by
        intro x v' w' h1 h2 h3
        refine ⟨k + 1, L ++ [x], hlt, rfl, ?_, by rw [List.length_append, HL.out]; rfl, HCH.out.snoc (h1.trans HE.out) (by rw [h2]; exact HNS.out), ?_, h3⟩
        · rw [endOf_snoc, ← HE.out, h2]
        · rw [endOf_snoc, ← HE.out, h2]; omega
      have FIN := Lib.hid fin
      clear fin
      by_cases hku : k < us.length
      · obtain ⟨ub, uo, rfl, hcu⟩ := HU.out.at k hku
        have c2 := HS.out.argCell hcu
        generalize us[k] = u at *
        clear hcu
        go_wp2_with (first | (refine bk_alloc HS.out rfl rfl ?_; intro g4 w4 h4; have T4 := Lib.hid h4; clear h4) | (refine bk_store T4.out 0 rfl rfl _ _ rfl rfl (E : Int) (N : Int) u rfl ?_; intro w5 h5; have T5 := Lib.hid h5; clear h5 T4) | (refine bk_loadg T5.out 0 rfl rfl _ rfl rfl ?_) | (at_builtin; go_must (refine bls_app T5.out 1 rfl rfl (.tmp 54) (.tmp 56) rfl rfl (E : Int) (N : Int) u ⟨E, N, u⟩ rfl rfl rfl rfl hL2 ?_; intro v6 w6 h6; have H6 := Lib.hid h6; clear h6; have k1 : w6.cell? ⟨g4, 1, none⟩ = some (.int .i64 (N : Int)) := (H6.out.row (i := 0) rfl).cell 1)))
        have F6 := FIN.out ⟨E, N, u⟩ v6 w6 rfl rfl H6.out.tail
        exact ⟨F6, by simp [intOf]; omega⟩
      · go_wp2_with (first | (refine bk_alloc HS.out rfl rfl ?_; intro g4 w4 h4; have T4 := Lib.hid h4; clear h4) | (refine bk_store T4.out 0 rfl rfl _ _ rfl rfl (E : Int) (N : Int) false rfl ?_; intro w5 h5; have T5 := Lib.hid h5; clear h5 T4) | (refine bk_loadg T5.out 0 rfl rfl _ rfl rfl ?_) | (at_builtin; go_must (refine bls_app T5.out 1 rfl rfl (.tmp 54) (.tmp 56) rfl rfl (E : Int) (N : Int) false ⟨E, N, false⟩ rfl rfl rfl rfl hL2 ?_; intro v6 w6 h6; have H6 := Lib.hid h6; clear h6; have k1 : w6.cell? ⟨g4, 1, none⟩ = some (.int .i64 (N : Int)) := (H6.out.row (i := 0) rfl).cell 1)))
        have F6 := FIN.out ⟨E, N, false⟩ v6 w6 rfl rfl H6.out.tail
        exact ⟨F6, by simp [intOf]; omega⟩
    · obtain rfl : k = zs.length := by omega
      obtain ⟨E, hE⟩ : ∃ E, E = endOf 184 L := ⟨_, rfl⟩
      have HE := Lib.hid hE
      rw [← hE] at hend ⊢
      have hE1 : 184 ≤ E := by rw [hE]; exact endOf_ge L 184
      have hE2 : E ≤ 13624 := by omega
      obtain ⟨a1, c1, rfl, _⟩ := bls_slice hS (i := 0) rfl
      have HL := Lib.hid hL; have HS := Lib.hid hS
      have hL6 : L.length ≤ 40 := by omega
      clear hE hlt hk hl6 hend hL hS p1 r1 p2 r2
      obtain ⟨g, W, hmk, t1⟩ := mk_st HS.out (E : Int) E rfl (by omega)
      have hz : (List.replicate E (0 : UInt8)).length = E := List.length_replicate ..
      generalize List.replicate E (0 : UInt8) = y at *
      have T1 := Lib.hid t1; have HY := Lib.hid hz
      clear t1 HS hz
      go_wp2_with fail
      have kc := ar_Arena T1.out 32 32 rfl 16384 16384 rfl (by decide) (by decide) (by decide) (by decide) _ _ _ y (T1.out.bsV (i := 0) rfl) (by have := HY.out; omega)
      with_reducible refine kc.mono ?_
      clear kc
      rintro e w3 ⟨q, rfl, t3⟩
      have T3 := Lib.hid t3
      clear t3
      have T4 := Lib.hid (show St w.heap.size w w3 (ArT q ⟨32, 16384, y⟩ :: BlsO (.slice a1 L.length c1) L :: []) from T3.out.sub (List.Sublist.cons_cons _ (List.sublist_cons_self ..)))
      clear T3 T1 hmk
      go_wp2
      rename ∀ (a : Act) (w : World), _ → _ => hkeep
      revert hkeep
      repeat (rename ∀ (a : Act) (w : World), _ → _ => hgx; clear hgx)
      repeat (rename Exit → Act → World → Prop => hgx; clear hgx)
      intro hkeep
      go_loopw [13] (fun vi wr => ∃ (k : Nat), k ≤ L.length ∧ vi = .int .i64 k ∧ St w.heap.size w wr (ArT q ⟨32, 16384, setAll y (L.take k)⟩ :: BlsO (.slice a1 L.length c1) L :: [])) (fun vi _ => L.length - (intOf vi).toNat)
      case atStart => exact ⟨0, Nat.zero_le _, rfl, T4.out⟩
      case round =>
        clear T4
        obtain ⟨j, hj, rfl, hS⟩ := hrel
        by_cases hlt : j < L.length
        · obtain ⟨bb, bo, rfl, hr⟩ := bl_at (bls_sl hS (i := 1) rfl).2 j hlt
          have hx := List.getElem_mem hlt
          have hcs := (Chain.append.1 (show Chain 184 (L.take j ++ L.drop j) by rw [List.take_append_drop]; exact HCH.out)).1
          have hel : endOf 184 (L.take j) ≤ y.length := by have h1 := endOf_take_le L 184 j; have h2 := HE.out; have h3 := HY.out; omega
          have hset := chain_setI (b := setAll y (L.take j)) HCH.out (by rw [hcs.setAll_length hel]; have h2 := HE.out; have h3 := HY.out; omega) hx
          have hnew : setB (setAll y (L.take j)) L[j] = setAll y (L.take (j + 1)) := by
            rw [List.take_succ_eq_append_getElem hlt, setAll_append]; rfl
          rw [hnew] at hset
          generalize L[j] = x at *
          have HS := Lib.hid hS; have HR := Lib.hid hr; have HST := Lib.hid hset
          clear hS hr hset hnew hx hcs hel
          go_wp2_with (refine bl_mid rfl _ rfl bb (bo + j * 3) rfl x HR.out ?_)
          have kc := blk_Set HS.out (i := 0) rfl x.off x.size x.used
          rw [show ({ base := 32, cap := 16384, b := setAll y (L.take j) } : Ar).b = setAll y (L.take j) from rfl, HST.out, show errS (some (setAll y (L.take (j + 1)))) = .nilIface from rfl] at kc
          with_reducible refine kc.mono ?_
          clear kc
          rintro e w5 ⟨rfl, t5⟩
          have T5 := Lib.hid t5
          clear t5
          go_wp2
          exact ⟨⟨j + 1, hlt, by go_num, T5.out⟩, by simp [intOf]; omega⟩
        · obtain rfl : j = L.length := by omega
          rw [List.take_length] at hS
          have hey : endOf 184 L = y.length := by have h2 := HE.out; have h3 := HY.out; omega
          have htile := HCH.out.tile (b := y) (Nat.le_refl _) (by decide) hey
          have hlen := HCH.out.setAll_length (b := y) (Nat.le_of_eq hey)
          have hyl := HY.out
          obtain ⟨Y, hr1, hr2, _, hr3⟩ := rebuild_right htile (by omega) (by omega)
          have T6 := Lib.hid (show St w.heap.size w wr ((ArT q ⟨32, 16384, setAll y L⟩ :: BlsO (.slice a1 L.length c1) L :: []).set 0 (ArT q ⟨32, 16384, setAll y L⟩)) from hS)
          have HR1 := Lib.hid hr1; have RT := Lib.hid hr3
          clear hS htile hlen hey hlt hj hr1 hr2 hr3 hyl
          go_wp2_with fail
          have kc := fit_Rebuild T6.out (Nat.zero_lt_succ _)
          rw [HR1.out, show errP (some Y) = .nilIface from rfl, show (some Y).getD (setAll y L) = Y from rfl] at kc
          with_reducible refine kc.mono ?_
          clear kc
          rintro e w7 ⟨rfl, t7⟩
          have T7 := Lib.hid t7
          clear t7
          have T8 := Lib.hid (show St w.heap.size w w7 (ArT q ⟨32, 16384, Y⟩ :: BlsO (.slice a1 L.length c1) L :: []) from T7.out)
          clear T7 T6 HR1
          go_wp2
          rename ∀ (a : Act) (w : World), _ → _ => hkeep
          revert hkeep
          repeat (rename ∀ (a : Act) (w : World), _ → _ => hgx; clear hgx)
          repeat (rename Exit → Act → World → Prop => hgx; clear hgx)
          intro hkeep
          go_loopw [14] (fun vc wr => ∃ (c : Nat), c ≤ 22 ∧ vc = .int .i64 c ∧ St w.heap.size w wr (ArT q ⟨32, 16384, Y⟩ :: BlsO (.slice a1 L.length c1) L :: [])) (fun vc _ => 22 - (intOf vc).toNat)
          case atStart => exact ⟨0, Nat.zero_le _, rfl, T8.out⟩
          case round =>
            clear T8
            obtain ⟨c, hc, rfl, hS⟩ := hrel
            by_cases hclt : c < 22
            · have d2 : decide ((c : Int) < 22) = true := decide_eq_true (by omega)
              have hS0 : St w.heap.size w wr (IntsO (.slice none 0 0) [] :: ArT q ⟨32, 16384, Y⟩ :: BlsO (.slice a1 L.length c1) L :: []) := hS.addOwn (Below.refl _ _) (World.ownsRow_nil _ _ _ _)
              have HS := Lib.hid hS0
              clear hS hS0
              have m1 : IntKind.i64.wrap ((L.length : Int) - 1) = (L.length : Int) - 1 := IntWalk.i64_in _ (by omega)
              go_wp2
              go_loopw [15, 16] (fun vw vi wr => ∃ (j : Nat) (iv : Int), j ≤ L.length ∧ vi = .int .i64 iv ∧ iv = (j : Int) - 1 ∧ St w.heap.size w wr (IntsO vw (anew (L.drop j) c) :: ArT q ⟨32, 16384, Y⟩ :: BlsO (.slice a1 L.length c1) L :: [])) (fun _ vi _ => (intOf vi + 1).toNat)
              case atStart => exact ⟨L.length, _, Nat.le_refl _, rfl, rfl, by rw [List.drop_length]; exact HS.out⟩
              case round =>
                clear HS
                obtain ⟨j, iv, hj, rfl, hiv, hS⟩ := hrel
                by_cases h0 : 0 ≤ iv
                · obtain ⟨K, rfl⟩ := Int.eq_ofNat_of_zero_le h0
                  have hKlt : K < L.length := by omega
                  obtain rfl : j = K + 1 := by omega
                  obtain ⟨bb, bo, rfl, hr⟩ := bl_at (bls_sl hS (i := 2) rfl).2 K hKlt
                  have hbx := (RT.out.good.mem (List.getElem_mem hKlt)).2.1
                  have hnew := anew_cons L[K] (L.drop (K + 1)) c
                  rw [← List.drop_eq_getElem_cons hKlt] at hnew
                  have hal : (anew (L.drop (K + 1)) c).length ≤ 1000000 := by
                    have h1 : (anew (L.drop (K + 1)) c).length ≤ (L.drop (K + 1)).length := by
                      unfold anew
                      rw [List.length_reverse, List.length_map]
                      exact List.length_filter_le _ _
                    rw [List.length_drop] at h1; omega
                  generalize L[K] = x at *
                  have hxs := blkAt_some hbx
                  have hxc := clsN_lt hbx
                  have kcl := fun w => ref_Class w (x.size : Int) (by omega) (by omega)
                  obtain ⟨C, hC⟩ : ∃ C : Nat, cls x.size = C := ⟨_, hxc.2⟩
                  simp only [hC] at kcl
                  rw [hC] at hnew
                  obtain ⟨k0, k1, k2⟩ := bl_cells hr
                  have m2 : IntKind.i64.wrap ((K : Int) - 1) = (K : Int) - 1 := IntWalk.i64_in _ (by omega)
                  have KCL := Lib.hid kcl; have HN := Lib.hid hnew; have HS := Lib.hid hS
                  clear hr hxs hxc kcl hC hnew hS hbx hiv h0
                  cases hu : x.used with
                  | true =>
                    rw [hu] at k2
                    have hn : anew (L.drop K) c = anew (L.drop (K + 1)) c := by rw [HN.out, if_neg (by rw [hu]; simp)]
                    have HN2 := Lib.hid hn
                    clear hn hu
                    go_wp2
                    exact ⟨⟨K, _, by omega, rfl, rfl, by rw [HN2.out]; exact HS.out⟩, by simp [intOf]⟩
                  | false =>
                    rw [hu] at k2
                    by_cases hcc : C = c
                    · have d5 : ((C : Int) == (c : Int)) = true := by rw [hcc]; simp
                      have hn : anew (L.drop K) c = anew (L.drop (K + 1)) c ++ [x.off] := by rw [HN.out, if_pos ⟨hu, by omega⟩]
                      have HN2 := Lib.hid hn
                      clear hn hu hcc
                      go_wp2_with fail
                      have kc := KCL.out wr
                      with_reducible refine kc.mono ?_
                      clear kc
                      rintro e w' ⟨rfl, rfl⟩
                      go_wp2_with (at_builtin; go_must (refine ints_app HS.out 0 rfl rfl (.tmp 110) (.tmp 116) rfl rfl (x.off : Int) x.off rfl rfl hal ?_; intro v6 w6 h6; have H6 := Lib.hid h6; clear h6))
                      exact ⟨⟨K, _, by omega, rfl, rfl, by rw [HN2.out]; exact H6.out⟩, by simp [intOf]⟩
                    · have d5 : ((C : Int) == (c : Int)) = false := by rw [beq_eq_false_iff_ne]; omega
                      have hn : anew (L.drop K) c = anew (L.drop (K + 1)) c := by rw [HN.out, if_neg (fun h => hcc (by omega))]
                      have HN2 := Lib.hid hn
                      clear hn hu hcc
                      go_wp2_with fail
                      have kc := KCL.out wr
                      with_reducible refine kc.mono ?_
                      clear kc
                      rintro e w' ⟨rfl, rfl⟩
                      go_wp2
                      exact ⟨⟨K, _, by omega, rfl, rfl, by rw [HN2.out]; exact HS.out⟩, by simp [intOf]⟩
                · obtain rfl : j = 0 := by omega
                  rw [List.drop_zero] at hS
                  have hall := RT.out.lists.all RT.out.good RT.out.len RT.out.max hclt
                  obtain ⟨a5, c5, e5, hs5⟩ := ints_slice hS (i := 0) rfl
                  subst e5
                  have ka := ls_All (l := IntsO (.slice a5 (anew L c).length c5) (anew L c) :: ArT q ⟨32, 16384, Y⟩ :: BlsO (.slice a1 L.length c1) L :: []) (i := 1) (b := Y) (bs := 32) (cp := 16384) (p := q) hS (by simp) c hclt
                  rw [hall, show errA (some (anew L c)) = .nilIface from rfl, Option.getD_some] at ka
                  have KA := Lib.hid ka
                  clear ka hS hall hs5 hiv
                  go_wp2_with fail
                  have kc := KA.out
                  with_reducible refine kc.mono ?_
                  clear kc
                  rintro e w6 ⟨v6', rfl, t6⟩
                  have T6 := Lib.hid t6
                  clear t6
                  obtain ⟨a6, c6, e6, hs6⟩ := ints_slice T6.out (i := 0) rfl
                  obtain ⟨a7, c7, e7, hs7⟩ := ints_slice T6.out (i := 1) rfl
                  subst e6
                  cases e7
                  have HS6 := Lib.hid hs6; have HS7 := Lib.hid hs7
                  clear hs6 hs7
                  go_wp2_with fail
                  have kc := law_Ints _ a6 c6 (anew L c) a5 c5 (anew L c) HS6.out HS7.out
                  rw [if_pos rfl] at kc
                  with_reducible refine kc.mono ?_
                  clear kc
                  rintro e w7 ⟨rfl, b7⟩
                  have B7 := Lib.hid b7
                  clear b7
                  have T7 := Lib.hid (show St w.heap.size w w7 (ArT q ⟨32, 16384, Y⟩ :: BlsO (.slice a1 L.length c1) L :: []) from (T6.out.tail.tail).below B7.out)
                  clear HS6 HS7 T6 B7
                  go_wp2
                  exact ⟨⟨c + 1, by omega, by go_num, T7.out⟩, by simp [intOf]; omega⟩
            · obtain rfl : c = 22 := by omega
              have HS := Lib.hid hS
              have kcl := ref_Class wr size z0 z1
              clear hS
              cases hsz : isSize size with
              | false =>
                have hc : cls size = -1 := by unfold cls; rw [hsz]; rfl
                rw [hc] at kcl
                have KCL := Lib.hid kcl; have B9 := Lib.hid HS.out.end
                clear kcl hc hsz
                go_wp2_with fail
                have kc := KCL.out
                with_reducible refine kc.mono ?_
                clear kc
                rintro e w' ⟨rfl, rfl⟩
                go_wp2
                go_ret
                exact ⟨rfl, B9.out⟩
              | true =>
                have hzz := (isSize_iff size).1 hsz
                obtain ⟨S, rfl⟩ := Int.eq_ofNat_of_zero_le (show 0 ≤ size by omega)
                have hcs := cls_size hsz
                obtain ⟨C, hC⟩ : ∃ C : Nat, cls S = C := ⟨(cls S).toNat, by omega⟩
                rw [hC] at kcl
                have hroom := find_room RT.out hsz
                have hfb := findB_right RT.out hsz
                have kf := fit_Find (l := ArT q ⟨32, 16384, Y⟩ :: BlsO (.slice a1 L.length c1) L :: []) (i := 0) (b := Y) (bs := 32) (cp := 16384) (p := q) HS.out (by simp) S hsz
                rw [hfb, show fndV (some ((findL L (anew L) S).getD 0)) = .tuple #[.int .i64 (((findL L (anew L) S).getD 0 : Nat) : Int), .nilIface] from rfl] at kf
                generalize (findL L (anew L) S).getD 0 = o at *
                have KCL := Lib.hid kcl; have KF := Lib.hid kf; have HRM := Lib.hid hroom
                have hS63 : S ≤ 16384 := by omega
                clear kcl kf hfb hroom hcs hC hsz hzz z0 z1
                go_wp2_with fail
                have kc := KCL.out
                with_reducible refine kc.mono ?_
                clear kc
                rintro e w' ⟨rfl, rfl⟩
                go_wp2_with fail
                have kc := KF.out
                with_reducible refine kc.mono ?_
                clear kc
                rintro e w5 ⟨rfl, t5⟩
                have T5 := Lib.hid t5
                clear t5
                have T5 := Lib.hid (show St w.heap.size w w5 (ArT q ⟨32, 16384, Y⟩ :: BlsO (.slice a1 L.length c1) L :: []) from T5.out)
                have e0 : ((o : Int) == 0) = decide (o = 0) := by rw [Bool.eq_iff_iff, beq_iff_eq, decide_eq_true_iff]; omega
                go_wp2
                rename ∀ (a : Act) (w : World), _ → _ => hkeep
                revert hkeep
                repeat (rename ∀ (a : Act) (w : World), _ → _ => hgx; clear hgx)
                repeat (rename Exit → Act → World → Prop => hgx; clear hgx)
                intro hkeep
                go_loopw [21, 22, 23] (fun vr vf vi wr => ∃ k : Nat, k ≤ L.length ∧ vi = .int .i64 k ∧ vr = .bool (roomB S (L.take k)) ∧ vf = .bool (foundB S o (L.take k)) ∧ St w.heap.size w wr (ArT q ⟨32, 16384, Y⟩ :: BlsO (.slice a1 L.length c1) L :: [])) (fun _ _ vi _ => L.length - (intOf vi).toNat)
                case atStart => exact ⟨0, Nat.zero_le _, rfl, rfl, by unfold foundB; simp, T5.out⟩
                case round =>
                  clear T5 HS
                  obtain ⟨k, hk, rfl, rfl, rfl, hS⟩ := hrel
                  by_cases hlt : k < L.length
                  · obtain ⟨bb, bo, rfl, hr⟩ := bl_at (bls_sl hS (i := 1) rfl).2 k hlt
                    have h1 := roomB_snoc S (L.take k) L[k]
                    have h2 := foundB_snoc S o (L.take k) L[k]
                    rw [← List.take_succ_eq_append_getElem hlt] at h1 h2
                    generalize L[k] = x at *
                    obtain ⟨k0, k1, k2⟩ := bl_cells hr
                    have HS := Lib.hid hS
                    clear hr hS
                    have fin : ∀ (rm' fn' : Bool) (w' : World), roomB S (L.take (k + 1)) = rm' → foundB S o (L.take (k + 1)) = fn' → w' = wr → (∃ k' : Nat, k' ≤ L.length ∧ (Value.int .i64 ((k : Int) + 1)) = .int .i64 k' ∧ (Value.bool rm') = .bool (roomB S (L.take k')) ∧ (Value.bool fn') = .bool (foundB S o (L.take k')) ∧ St w.heap.size w w' (ArT q ⟨32, 16384, Y⟩ :: BlsO (.slice (some ⟨bb, bo, none⟩) L.length c1) L :: [])) := by
                      rintro rm' fn' w' rfl rfl rfl
                      exact ⟨k + 1, hlt, rfl, rfl, rfl, HS.out⟩
                    have FIN := Lib.hid fin
                    clear fin
                    have e1 : ((x.off : Int) == (o : Int)) = decide (x.off = o) := by rw [Bool.eq_iff_iff, beq_iff_eq, decide_eq_true_iff]; omega
                    generalize decide (x.off = o) = eo at *
                    generalize roomB S (L.take k) = rm at *
                    generalize foundB S o (L.take k) = fn at *
                    cases hu : x.used <;> rw [hu] at k2 h1 h2 <;> cases rm <;> cases fn <;> cases eo <;> by_cases hle : S ≤ x.size <;> simp only [hle, decide_true, decide_false, Bool.not_true, Bool.not_false, Bool.true_and, Bool.and_true, Bool.false_and, Bool.and_false, Bool.or_true, Bool.or_false, Bool.false_or, Bool.true_or] at h1 h2
                    all_goals
                      have G := Lib.hid (FIN.out _ _ _ h1 h2 rfl)
                      clear h1 h2 hu
                      go_wp2
                      exact ⟨G.out, by simp [intOf]; omega⟩
                  · obtain rfl : k = L.length := by omega
                    rw [List.take_length] at *
                    obtain ⟨h1, h2⟩ := HRM.out
                    have B9 := Lib.hid hS.end
                    rw [h1]
                    clear hS
                    by_cases ho : o = 0
                    · have h3 : roomB S L = false := by rw [← h2, ho]; rfl
                      rw [h3]
                      have e2 : ((o : Int) != 0) = false := by rw [ho]; rfl
                      clear h1 h2 h3 ho e0
                      go_wp2
                      go_ret
                      exact ⟨rfl, B9.out⟩
                    · have h3 : roomB S L = true := by rw [← h2]; exact decide_eq_true ho
                      rw [h3]
                      have e2 : ((o : Int) != 0) = true := by rw [bne_iff_ne]; omega
                      clear h1 h2 h3 ho e0
                      go_wp2
                      go_ret
                      exact ⟨rfl, B9.out⟩
end Go.Proofs.Ytjijniillehfoaa

/- The sum (CRC-32), in plain words, and its laws. No program. -/
namespace Go.Own
/-- One shift of the register. -/
def crcStep (r : Nat) : Nat := if r % 2 = 1 then (r / 2) ^^^ 3988292384 else r / 2
/-- n shifts. -/
def crcN : Nat → Nat → Nat
  | 0, r => r
  | n + 1, r => crcN n (crcStep r)
theorem crcN_add (a b r : Nat) : crcN (a + b) r = crcN b (crcN a r) := by
  induction a generalizing r with
  | zero => simp [crcN]
  | succ a ih => rw [Nat.succ_add]; simp only [crcN]; exact ih _
theorem crcN_snoc (n r : Nat) : crcN (n + 1) r = crcStep (crcN n r) := crcN_add n 1 r
/-- A register takes a byte. -/
def crcTake (r x : Nat) : Nat := crcN 8 (r ^^^ x)
/-- A register takes bytes. -/
def crcReg (r : Nat) (l : List UInt8) : Nat := l.foldl (fun r x => crcTake r x.toNat) r
/-- More of a sum and bytes. -/
def crcMore (s : Nat) (l : List UInt8) : Nat := 4294967295 - crcReg (4294967295 - s) l
def crcSum (l : List UInt8) : Nat := crcMore 0 l

theorem xor_half (a b : Nat) : (a ^^^ b) / 2 = a / 2 ^^^ b / 2 := by
  have := Nat.shiftRight_xor_distrib (a := a) (b := b) (i := 1)
  simpa [Nat.shiftRight_eq_div_pow] using this
theorem xor_par (a b : Nat) : (a ^^^ b) % 2 = (a % 2 + b % 2) % 2 := by
  have h := Nat.xor_mod_two_pow (a := a) (b := b) (n := 1)
  have ha : a % 2 = 0 ∨ a % 2 = 1 := by omega
  have hb : b % 2 = 0 ∨ b % 2 = 1 := by omega
  rw [show (2 : Nat) ^ 1 = 2 from rfl] at h
  rcases ha with ha | ha <;> rcases hb with hb | hb <;> rw [h, ha, hb] <;> rfl
theorem lt_xor {a b : Nat} (ha : a < 4294967296) (hb : b < 4294967296) : a ^^^ b < 4294967296 := Nat.xor_lt_two_pow (n := 32) ha hb
theorem step_xor (a b : Nat) : crcStep (a ^^^ b) = crcStep a ^^^ crcStep b := by
  unfold crcStep
  rw [xor_par, xor_half]
  have ha : a % 2 = 0 ∨ a % 2 = 1 := by omega
  have hb : b % 2 = 0 ∨ b % 2 = 1 := by omega
  rcases ha with ha | ha <;> rcases hb with hb | hb <;> simp only [ha, hb, Nat.reduceAdd, Nat.reduceMod, Nat.zero_ne_one, if_true, if_false]
  · rw [Nat.xor_assoc]
  · rw [Nat.xor_assoc, Nat.xor_comm (b / 2), ← Nat.xor_assoc]
  · rw [Nat.xor_assoc, Nat.xor_comm (b / 2), ← Nat.xor_assoc 3988292384, Nat.xor_self, Nat.zero_xor]
theorem crcN_xor (n a b : Nat) : crcN n (a ^^^ b) = crcN n a ^^^ crcN n b := by
  induction n generalizing a b with
  | zero => rfl
  | succ n ih => simp only [crcN]; rw [step_xor, ih]
theorem step_lt {r : Nat} (h : r < 4294967296) : crcStep r < 4294967296 := by
  unfold crcStep; split
  · exact lt_xor (by omega) (by decide)
  · omega
theorem crcN_lt (n : Nat) {r : Nat} (h : r < 4294967296) : crcN n r < 4294967296 := by
  induction n generalizing r with
  | zero => exact h
  | succ n ih => exact ih (step_lt h)
theorem take_lt {r x : Nat} (h : r < 4294967296) (hx : x < 256) : crcTake r x < 4294967296 := crcN_lt 8 (lt_xor h (by omega))
theorem reg_lt (l : List UInt8) {r : Nat} (h : r < 4294967296) : crcReg r l < 4294967296 := by
  induction l generalizing r with
  | nil => exact h
  | cons x t ih => exact ih (take_lt h x.toNat_lt)
theorem crcN_even (n q : Nat) : crcN n (2 ^ n * q) = q := by
  induction n generalizing q with
  | zero => simp [crcN]
  | succ n ih =>
    simp only [crcN]
    have e : crcStep (2 ^ (n + 1) * q) = 2 ^ n * q := by
      unfold crcStep
      have : 2 ^ (n + 1) * q = 2 * (2 ^ n * q) := by rw [Nat.pow_succ, Nat.mul_comm (2 ^ n) 2, Nat.mul_assoc]
      rw [this, if_neg (by omega)]; omega
    rw [e, ih]
/-- The table's way: a byte at once. -/
theorem take_table (v x : Nat) (hx : x < 256) : crcTake v x = (v / 256) ^^^ crcN 8 ((v % 256) ^^^ x) := by
  have hv : v = (256 * (v / 256)) ^^^ (v % 256) := by
    have h := nat_join 8 (256 * (v / 256)) (v % 256) (by simp) (Nat.mod_lt _ (by decide))
    have h2 : (256 * (v / 256)) ^^^ (v % 256) = (256 * (v / 256)) ||| (v % 256) := by
      apply Nat.eq_of_testBit_eq
      intro i
      have ha : (256 * (v / 256)).testBit i = (decide (8 ≤ i) && (v / 256).testBit (i - 8)) := by
        have := Nat.testBit_two_pow_mul (i := 8) (a := v / 256) (j := i); simpa using this
      have hb : (v % 256).testBit i = (decide (i < 8) && v.testBit i) := by
        have := Nat.testBit_mod_two_pow v 8 i; simpa using this
      rw [Nat.testBit_xor, Nat.testBit_or, ha, hb]
      by_cases hi : i < 8
      · have : ¬ 8 ≤ i := by omega
        simp [hi, this]
      · have : 8 ≤ i := by omega
        simp [hi, this]
    rw [h2, h]; omega
  have h1 : crcTake v x = crcN 8 ((256 * (v / 256)) ^^^ ((v % 256) ^^^ x)) := by
    unfold crcTake
    rw [← Nat.xor_assoc, ← hv]
  rw [h1, crcN_xor]
  have := crcN_even 8 (v / 256)
  rw [show (2 : Nat) ^ 8 = 256 from rfl] at this
  rw [this]
theorem reg_append (r : Nat) (a b : List UInt8) : crcReg r (a ++ b) = crcReg (crcReg r a) b := List.foldl_append
theorem reg_snoc (r : Nat) (l : List UInt8) (k : Nat) (h : k < l.length) : crcReg r (l.take (k + 1)) = crcTake (crcReg r (l.take k)) l[k].toNat := by
  rw [take_snoc l k h, reg_append]; rfl
theorem more_lt (s : Nat) (l : List UInt8) : crcMore s l < 4294967296 := by unfold crcMore; omega
theorem more_append (s : Nat) (a b : List UInt8) (hs : s < 4294967296) : crcMore s (a ++ b) = crcMore (crcMore s a) b := by
  unfold crcMore
  have := reg_lt a (r := 4294967295 - s) (by omega)
  rw [reg_append, show 4294967295 - (4294967295 - crcReg (4294967295 - s) a) = crcReg (4294967295 - s) a by omega]
theorem more_nil (s : Nat) (hs : s < 4294967296) : crcMore s [] = s := by simp [crcMore, crcReg]; omega

/-! ### Unlike registers stay unlike. -/
theorem half_top (r : Nat) (h : r < 4294967296) : r / 2 < 2147483648 := by omega
theorem xor_top (x : Nat) (h : x < 2147483648) : 2147483648 ≤ x ^^^ 3988292384 := by
  have e : (x ^^^ 3988292384).testBit 31 = true := by
    rw [Nat.testBit_xor, Nat.testBit_lt_two_pow (x := x) (i := 31) h]; decide
  exact Nat.ge_two_pow_of_testBit e
theorem step_inj {a b : Nat} (ha : a < 4294967296) (hb : b < 4294967296) (h : crcStep a = crcStep b) : a = b := by
  unfold crcStep at h
  have ta := half_top a ha
  have tb := half_top b hb
  by_cases pa : a % 2 = 1 <;> by_cases pb : b % 2 = 1
  · rw [if_pos pa, if_pos pb] at h
    have : a / 2 = b / 2 := by
      have h2 := congrArg (· ^^^ 3988292384) h
      simpa [Nat.xor_assoc] using h2
    omega
  · rw [if_pos pa, if_neg pb] at h
    have := xor_top (a / 2) ta
    omega
  · rw [if_neg pa, if_pos pb] at h
    have := xor_top (b / 2) tb
    omega
  · rw [if_neg pa, if_neg pb] at h
    omega
theorem crcN_inj (n : Nat) {a b : Nat} (ha : a < 4294967296) (hb : b < 4294967296) (h : crcN n a = crcN n b) : a = b := by
  induction n generalizing a b with
  | zero => exact h
  | succ n ih => exact step_inj ha hb (ih (step_lt ha) (step_lt hb) h)
theorem xor_right_inj {a b x : Nat} (h : a ^^^ x = b ^^^ x) : a = b := by
  have h2 := congrArg (· ^^^ x) h
  simpa [Nat.xor_assoc] using h2
theorem reg_inj (l : List UInt8) {a b : Nat} (ha : a < 4294967296) (hb : b < 4294967296) (h : crcReg a l = crcReg b l) : a = b := by
  induction l generalizing a b with
  | nil => exact h
  | cons x t ih =>
    have h1 := ih (take_lt ha x.toNat_lt) (take_lt hb x.toNat_lt) h
    have hx := x.toNat_lt
    exact xor_right_inj (crcN_inj 8 (lt_xor ha (by omega)) (lt_xor hb (by omega)) h1)
theorem more_inj (l : List UInt8) {a b : Nat} (ha : a < 4294967296) (hb : b < 4294967296) (h : crcMore a l = crcMore b l) : a = b := by
  unfold crcMore at h
  have h1 := reg_lt l (r := 4294967295 - a) (by omega)
  have h2 := reg_lt l (r := 4294967295 - b) (by omega)
  have h3 := reg_inj l (a := 4294967295 - a) (b := 4294967295 - b) (by omega) (by omega) (by omega)
  omega
/-- Four bytes at once. -/
theorem reg_low (k r v : Nat) (hv : v < 256 ^ k) : crcReg r (low v k) = crcN (8 * k) (r ^^^ v) := by
  induction k generalizing r v with
  | zero => have : v = 0 := by simpa using hv
            subst this; simp [low, crcReg, crcN]
  | succ k ih =>
    rw [low, Nat.mul_add, Nat.add_comm (8 * k) (8 * 1), crcN_add]
    show crcReg (crcTake r (UInt8.ofNat v).toNat) (low (v / 256) k) = _
    rw [ih _ _ (by rw [Nat.pow_succ] at hv; omega)]
    congr 1
    have e : (UInt8.ofNat v).toNat = v % 256 := by simp
    rw [e]
    have hv' : v = (v % 256) ^^^ (256 * (v / 256)) := by
      have hx := take_table v 0 (by decide)
      have h := nat_join 8 (256 * (v / 256)) (v % 256) (by simp) (Nat.mod_lt _ (by decide))
      have h2 : (v % 256) ^^^ (256 * (v / 256)) = (256 * (v / 256)) ||| (v % 256) := by
        apply Nat.eq_of_testBit_eq
        intro i
        have ha : (256 * (v / 256)).testBit i = (decide (8 ≤ i) && (v / 256).testBit (i - 8)) := by
          have := Nat.testBit_two_pow_mul (i := 8) (a := v / 256) (j := i); simpa using this
        have hb : (v % 256).testBit i = (decide (i < 8) && v.testBit i) := by
          have := Nat.testBit_mod_two_pow v 8 i; simpa using this
        rw [Nat.testBit_xor, Nat.testBit_or, ha, hb]
        by_cases hi : i < 8
        · have : ¬ 8 ≤ i := by omega
          simp [hi, this]
        · have : 8 ≤ i := by omega
          simp [hi, this]
      rw [h2, h]; omega
    have e3 := crcN_even 8 (v / 256)
    rw [show (2 : Nat) ^ 8 = 256 from rfl] at e3
    rw [show r ^^^ v = (r ^^^ (v % 256)) ^^^ (256 * (v / 256)) from by rw [Nat.xor_assoc, ← hv']]
    rw [show (8 * 1 : Nat) = 8 from rfl, crcN_xor, e3]
    rfl
theorem xor_max (s : Nat) (h : s < 4294967296) : bits .xor .u32 IntKind.u32.max (s : Int) = ((4294967295 - s : Nat) : Int) := by
  have e : IntKind.u32.max = ((4294967295 : Nat) : Int) := by decide
  rw [e, u32_xor_nat 4294967295 s (by decide) h]
  congr 1
  apply Nat.eq_of_testBit_eq
  intro i
  have h1 : (4294967295 : Nat).testBit i = decide (i < 32) := by
    have := Nat.testBit_two_pow_sub_one 32 i; simpa using this
  have h2 := Nat.testBit_two_pow_sub_succ (n := 32) (x := s) (by omega) i
  rw [show (2 : Nat) ^ 32 - (s + 1) = 4294967295 - s by omega] at h2
  rw [Nat.testBit_xor, h1, h2]
  by_cases hi : i < 32
  · simp [hi]
  · have : s.testBit i = false := Nat.testBit_lt_two_pow (Nat.lt_of_lt_of_le h (Nat.pow_le_pow_right (n := 2) (by decide) (show 32 ≤ i by omega)))
    simp [hi, this]
end Go.Own

/- Two things in memory become one; a row of slices. -/
namespace Go.Own
open Go Go.RowKit
theorem SL.join {B : Nat} {w : World} (hB : B ≤ w.heap.size) {V : Nat → Prop} (hVB : ∀ x, V x → B ≤ x) : ∀ {l : List Ob} {U : Bool → Nat → Prop} {i : Nat} {Q : Ob}, SL B w l U → (∀ m x, U m x → x < w.heap.size) → (∀ x, V x → U true x) → l[i]? = some Q → Q.m = true →
    ∃ G, Q.p w G ∧ (∀ x, G x → ¬ U true x ∧ ¬ U false x ∧ B ≤ x) ∧ ∀ (w' : World) (F' : Nat → Prop) (R : Ob) (U' : Bool → Nat → Prop), Keep (fun x => G x ∨ V x) w w' → R.p w' F' → (∀ x, F' x → G x ∨ V x ∨ w.heap.size ≤ x) → (∀ m x, U' m x → U m x ∧ ¬ V x) → SL B w' (l.set i R) U'
  | [], _, _, _, _, _, _, hi, _ => by simp at hi
  | Q0 :: r, U, 0, Q, h, hU, hV, hi, hm => by
    obtain ⟨G, h1, h2, h4⟩ := h
    simp only [List.getElem?_cons_zero, Option.some.injEq] at hi
    subst hi
    refine ⟨G, h1, fun x hx => ⟨(h2 x hx).1, (h2 x hx).2 hm⟩, fun w' F' R U' k hp hF hU' => ⟨F', hp, fun x hx => ?_, SL.move k h4 (fun x hx => ?_) (fun m x hx => ?_)⟩⟩
    · have hno : ∀ m, ¬ U' m x := fun m hu => by
        obtain ⟨u1, u2⟩ := hU' m x hu
        rcases hF x hx with h | h | h
        · cases m with
          | true => exact (h2 x h).1 u1
          | false => exact ((h2 x h).2 hm).1 u1
        · exact u2 h
        · have := hU m x u1; omega
      refine ⟨hno true, fun _ => ⟨hno false, ?_⟩⟩
      rcases hF x hx with h | h | h
      · exact ((h2 x h).2 hm).2
      · exact hVB x h
      · omega
    · rcases hx with hx | hx
      · exact .inr ⟨hm.symm, hx⟩
      · exact .inl (hV x hx)
    · rcases hx with hx | ⟨rfl, hx⟩
      · exact .inl (.inl (hU' m x hx).1)
      · rcases hF x hx with h | h | h
        · exact .inr (.inl (.inr ⟨hm.symm, h⟩))
        · exact .inr (.inl (.inl (hV x h)))
        · exact .inr (.inr h)
  | P0 :: r, U, i + 1, Q, h, hU, hV, hi, hm => by
    obtain ⟨F0, h1, h2, h4⟩ := h
    rw [List.getElem?_cons_succ] at hi
    obtain ⟨G, a1, a2, a4⟩ := SL.join hB hVB h4 (fun m x hx => hx.elim (hU m x) fun h => P0.lt h1 x h.2) (fun x hx => .inl (hV x hx)) hi hm
    refine ⟨G, a1, fun x hx => ⟨fun hu => (a2 x hx).1 (.inl hu), fun hu => (a2 x hx).2.1 (.inl hu), (a2 x hx).2.2⟩, fun w' F' R U' k hp hF hU' => ⟨F0, P0.kept h1 k fun x hx hg => ?_, fun x hx => ⟨fun hu => (h2 x hx).1 (hU' true x hu).1, fun hm0 => ⟨fun hu => ((h2 x hx).2 hm0).1 (hU' false x hu).1, ((h2 x hx).2 hm0).2⟩⟩, a4 w' F' R _ k hp hF fun m x hx => ?_⟩⟩
    · rcases hg with hg | hg
      · cases hpm : P0.m with
        | true => exact (a2 x hg).1 (.inr ⟨hpm.symm, hx⟩)
        | false => exact (a2 x hg).2.1 (.inr ⟨hpm.symm, hx⟩)
      · exact (h2 x hx).1 (hV x hg)
    · rcases hx with hx | hx
      · exact ⟨.inl (hU' m x hx).1, (hU' m x hx).2⟩
      · exact ⟨.inr hx, fun hv => (h2 x hx.2).1 (hV x hv)⟩
/-- The first thing, and another one, become one. -/
theorem St.join {B : Nat} {w0 w : World} {l : List Ob} {i : Nat} {P Q : Ob} (h : St B w0 w (P :: l)) (hP : P.m = true) (hi : l[i]? = some Q) (hQ : Q.m = true) :
    ∃ F G, P.p w F ∧ Q.p w G ∧ (∀ x, G x → ¬ F x) ∧ (∀ x, F x → x < w.heap.size) ∧ (∀ x, G x → x < w.heap.size) ∧
      ∀ (w' : World) (F' : Nat → Prop) (R : Ob), Keep (fun x => G x ∨ F x) w w' → R.p w' F' → (∀ x, F' x → G x ∨ F x ∨ w.heap.size ≤ x) → St B w0 w' (l.set i R) := by
  obtain ⟨F, h1, h2, h4⟩ := h.sl
  have hFB : ∀ x, F x → B ≤ x := fun x hx => ((h2 x hx).2 hP).2
  obtain ⟨G, g1, g2, g4⟩ := SL.join h.size hFB h4 (fun m x hx => hx.elim (fun h => h.elim) fun h => P.lt h1 x h.2) (fun x hx => .inr ⟨hP.symm, hx⟩) hi hQ
  refine ⟨F, G, h1, g1, fun x hx hf => (g2 x hx).1 (.inr ⟨hP.symm, hf⟩), P.lt h1, Q.lt g1, fun w' F' R k hp hF => ⟨h.base, h.keep.trans (k.mono fun x _ hx => hx.elim (fun hx => (g2 x hx).2.2) (hFB x)), g4 w' F' R _ k hp hF fun m x hx => hx.elim⟩⟩
/-- 'v[j] = x' on a row of one's own, of one cell each. -/
theorem St.setOwn {B : Nat} {w0 w : World} {l : List Ob} {i : Nat} {e : TypeId} {v : Value} {n : Nat} {cs : List Value} (h : St B w0 w l) (hi : l[i]? = some (OwO e 1 v n cs)) (j : Nat) (hj : j < cs.length) :
    ∃ g cap, v = .slice (some ⟨g, 0, none⟩) n cap ∧ w.cell? ⟨g, j, none⟩ = some cs[j] ∧ w.frozen? ⟨g, j, none⟩ = false ∧
      ∀ x, x.oneCell' = true → St B w0 (w.setCell ⟨g, j, none⟩ x) (l.set i (OwO e 1 v n (cs.set j x))) := by
  have ho := h.own hi
  have hn : n = cs.length := by have := ho.1; omega
  subst hn
  obtain ⟨g, cap, cur, rfl, _⟩ := own_some ho (by omega)
  refine ⟨g, cap, rfl, ?_, ho.frozenAt j, fun x hx => ?_⟩
  · rw [ho.cellAt j (by omega)]; simp [hj]
  · exact h.ownTo hi _ _ _ _ (ho.stored j x).1 ((Keep.refl (fun k => (Value.slice (some ⟨g, 0, none⟩) cs.length cap).ownBlock = some k) w).setCell (p := ⟨g, j, none⟩) (.inl rfl) _) (.inl rfl)
/-- A slice value. -/
structure Sv where
  a : Option Addr
  n : Nat
  c : Nat
def Sv.v (s : Sv) : Value := .slice s.a s.n s.c
/-- A row of one's own, of slices; each reads as a row of cells, in blocks that aren't the row's own. -/
def MxO (e : TypeId) (v : Value) (ss : List Sv) (rows : List (List Value)) : Ob where
  m := true
  p := fun w F => (w.ownsRow 0 e 1 v ss.length (ss.map Sv.v) ∧ (∀ g, v.ownBlock = some g → F g) ∧ ss.length = rows.length ∧
    ∀ (j : Nat) (s : Sv) (r : List Value), ss[j]? = some s → rows[j]? = some r → Sl w s.a s.n s.c 1 r ∧ ∀ q : Addr, s.a = some q → 0 < r.length → F q.block ∧ v.ownBlock ≠ some q.block) ∧ ∀ k, F k → k < w.heap.size
  lt := fun h => h.2
  kept := fun {w w' F G} h k hd => by
    obtain ⟨⟨h1, h2, h3, h4⟩, h5⟩ := h
    refine ⟨⟨own_kept h1 k fun g hg => hd g (h2 g hg), h2, h3, fun j s r hs hr => ?_⟩, fun x hx => Nat.lt_of_lt_of_le (h5 x hx) k.size⟩
    obtain ⟨s1, s2⟩ := h4 j s r hs hr
    refine ⟨⟨s1.len, s1.cap, s1.room, s1.nilcap, fun i v hi => ?_⟩, s2⟩
    obtain ⟨b', o, e, hc⟩ := s1.cells i v hi
    have hl : 0 < r.length := by have := (List.getElem?_eq_some_iff.1 hi).1; omega
    refine ⟨b', o, e, ?_⟩
    rw [cell_of_block (w := w) (p := ⟨b', o + i, none⟩) (k.block b' (World.block_lt_of_cell? w _ hc) (hd _ (s2 _ e hl).1))]
    exact hc
section
variable {B : Nat} {w0 w : World} {l : List Ob} {e : TypeId} {v : Value} {ss : List Sv} {rows : List (List Value)}
/-- One of the slices: where it lies, what it reads as. -/
theorem St.mx (h : St B w0 w l) {i : Nat} (hi : l[i]? = some (MxO e v ss rows)) (j : Nat) (hj : j < ss.length) :
    ∃ g cap r, v = .slice (some ⟨g, 0, none⟩) ss.length cap ∧ ss.length ≤ cap ∧ cap ≤ 9223372036854775807 ∧ w.cell? ⟨g, j, none⟩ = some (.slice ss[j].a ss[j].n ss[j].c) ∧ w.frozen? ⟨g, j, none⟩ = false ∧ rows[j]? = some r ∧ Sl w ss[j].a ss[j].n ss[j].c 1 r := by
  obtain ⟨F, ⟨⟨h1, h2, h3, h4⟩, h5⟩, _⟩ := h.at hi
  obtain ⟨g, cap, cur, e1, _⟩ := own_some h1 (by rw [List.length_map]; omega)
  subst e1
  obtain ⟨a', c', ev, _, hsl⟩ := Sl.of_owned h1
  cases ev
  have hc := Sl.cap hsl; have hr := Sl.room hsl
  obtain ⟨s1, _⟩ := h4 j ss[j] rows[j] (List.getElem?_eq_getElem hj) (List.getElem?_eq_getElem (by omega))
  refine ⟨g, cap, rows[j]'(by omega), rfl, hc, hr, ?_, h1.frozenAt j, List.getElem?_eq_getElem _, s1⟩
  rw [h1.cellAt j (by omega)]; simp [hj, Sv.v]
/-- 'v[j] = x', x a row of one's own that is no longer used by another name. -/
theorem St.mxSet {e' : TypeId} {u : Value} {n : Nat} {cs : List Value} (h : St B w0 w (OwO e' 1 u n cs :: l)) {i : Nat} (hi : l[i]? = some (MxO e v ss rows)) (j : Nat) (hj : j < ss.length) :
    ∃ g cap s, v = .slice (some ⟨g, 0, none⟩) ss.length cap ∧ u = Sv.v s ∧ (∃ x, w.cell? ⟨g, j, none⟩ = some x) ∧ w.frozen? ⟨g, j, none⟩ = false ∧ St B w0 (w.setCell ⟨g, j, none⟩ u) (l.set i (MxO e v (ss.set j s) (rows.set j cs))) := by
  obtain ⟨F, G, ⟨f1, f2, f3⟩, ⟨⟨h1, h2, h3, h4⟩, h5⟩, hd, _, _, hto⟩ := h.join rfl hi rfl
  obtain ⟨g, cap, cur, e1, _⟩ := own_some h1 (by rw [List.length_map]; omega)
  subst e1
  obtain ⟨a, c, eu, _, hsl⟩ := Sl.of_owned f1
  subst eu
  have hg : G g := h2 g rfl
  have kp : Keep (fun x => x = g) w (w.setCell ⟨g, j, none⟩ (.slice a n c)) := (Keep.refl (fun x => x = g) w).setCell (p := ⟨g, j, none⟩) (.inl rfl) _
  have hst := h1.stored j (.slice a n c)
  refine ⟨g, cap, ⟨a, n, c⟩, rfl, rfl, ⟨ss[j].v, by rw [h1.cellAt j (by omega)]; simp [hj]⟩, h1.frozenAt j, ?_⟩
  refine hto _ (fun x => G x ∨ F x) _ (kp.mono fun x _ hx => .inl (by rw [hx]; exact hg)) ⟨⟨?_, fun g' hg' => .inl (h2 g' hg'), by rw [List.length_set, List.length_set]; exact h3, fun j' s r hs hr => ?_⟩, fun x hx => ?_⟩ fun x hx => hx.elim .inl fun hx => .inr (.inl hx)
  · rw [List.length_set, List.map_set]; exact hst.1
  · by_cases hjj : j' = j
    · subst hjj
      rw [List.getElem?_set_self hj] at hs
      rw [List.getElem?_set_self (by omega)] at hr
      simp only [Option.some.injEq] at hs hr
      subst hs; subst hr
      have hblk : ∀ q, a = some q → 0 < cs.length → F q.block ∧ q.block ≠ g := fun q hq h0 => by
        have hF : F q.block := by
          refine f2 _ ?_
          obtain ⟨b0, o0, e0, _⟩ := hsl.cells 0 cs[0] (List.getElem?_eq_getElem h0)
          obtain ⟨g2, cap2, cur2, e2, _⟩ := own_some f1 h0
          cases e2
          cases hq
          rfl
        exact ⟨hF, fun e => hd _ (e ▸ hg) hF⟩
      refine ⟨⟨hsl.len, hsl.cap, hsl.room, hsl.nilcap, fun i v hi => ?_⟩, fun q hq h0 => ⟨.inr (hblk q hq h0).1, fun he => (hblk q hq h0).2 ?_⟩⟩
      · obtain ⟨b', o, e, hc⟩ := hsl.cells i v hi
        have hl : 0 < cs.length := by have := (List.getElem?_eq_some_iff.1 hi).1; omega
        refine ⟨b', o, e, ?_⟩
        rw [cell_of_block (w := w) (p := ⟨b', o + i, none⟩) (kp.block b' (World.block_lt_of_cell? w _ hc) (hblk _ e hl).2)]
        exact hc
      · simp only [Value.ownBlock, Option.map_some, Option.some.injEq] at he; exact he.symm
    · rw [List.getElem?_set_ne (fun e => hjj e.symm)] at hs hr
      obtain ⟨s1, s2⟩ := h4 j' s r hs hr
      refine ⟨⟨s1.len, s1.cap, s1.room, s1.nilcap, fun i v hi => ?_⟩, fun q hq h0 => ⟨.inl (s2 q hq h0).1, (s2 q hq h0).2⟩⟩
      obtain ⟨b', o, e, hc⟩ := s1.cells i v hi
      have hl : 0 < r.length := by have := (List.getElem?_eq_some_iff.1 hi).1; omega
      refine ⟨b', o, e, ?_⟩
      rw [cell_of_block (w := w) (p := ⟨b', o + i, none⟩) (kp.block b' (World.block_lt_of_cell? w _ hc) (fun hb => (s2 _ e hl).2 (by have hb : b' = g := hb; subst hb; rfl)))]
      exact hc
  · simp only [World.setCell, Array.size_modify]
    rcases hx with hx | hx
    · exact h5 x hx
    · exact f3 x hx
end
section
variable {P : Program} {ops : Array Oper} {rest : List Oper} {o : Oper} {a : Act} {Q : Exit → Act → World → Prop} {K : Act → World → Prop}
/-- '*p = u', u of one cell. -/
theorem store_cell_at {w : World} (t : TypeId) (x y : Operand) (ho : o.op = .store t x y) (p : Addr) (hx : a.eval x = .pointer (some p)) (u old : Value) (hy : a.eval y = u) (hu : u.oneCell' = true) (ht : (P.info? t).map (·.size) = some 1)
    (hc : w.cell? p = some old) (hf : w.frozen? p = false) (hk : K (a.put o.dst undef) (w.setCell p u)) : o.wp P a w K Q := by
  cases hi : P.info? t with
  | none => rw [hi] at ht; cases ht
  | some ie =>
    rw [hi] at ht
    simp only [Option.map_some, Option.some.injEq] at ht
    have hst := Lib.rl_storeVar_one (P := P) t ie hi ht p u old hu w hc hf
    unfold Oper.wp execOp
    simp only [ho, hx, hy, Instr.storeAt, Instr.sureAddr]
    simp [Sem.run_bind, Result.andThen, hst]
    exact hk
section
variable {B : Nat} {w0 w : World} {l : List Ob}
theorem own_store_at (h : St B w0 w l) (i : Nat) {e : TypeId} {g nv n cap : Nat} {cs : List Value} (hi : l[i]? = some (OwO e 1 (.slice (some ⟨g, 0, none⟩) nv cap) n cs)) (j : Nat) (hj : j < cs.length) (t : TypeId) (x y : Operand) (ho : o.op = .store t x y)
    (hx : a.eval x = .pointer (some ⟨g, j, none⟩)) (u : Value) (hy : a.eval y = u) (hu : u.oneCell' = true) (ht : (P.info? t).map (·.size) = some 1)
    (hk : ∀ w', St B w0 w' (l.set i (OwO e 1 (.slice (some ⟨g, 0, none⟩) nv cap) n (cs.set j u))) → K (a.put o.dst undef) w') : o.wp P a w K Q := by
  obtain ⟨g', cap', e', hc, hf, hset⟩ := h.setOwn hi j hj
  cases e'
  exact store_cell_at t x y ho _ hx u _ hy hu ht hc hf (hk _ (hset u hu))
theorem own_store (h : St B w0 w l) (i : Nat) {e : TypeId} {g nv n cap : Nat} {cs : List Value} (hi : l[i]? = some (OwO e 1 (.slice (some ⟨g, 0, none⟩) nv cap) n cs)) (j : Nat) (hj : j < cs.length) (hgd : Region.wanted o (yielded ops a.tmps) = true) (t : TypeId) (x y : Operand) (ho : o.op = .store t x y)
    (hx : a.eval x = .pointer (some ⟨g, j, none⟩)) (u : Value) (hy : a.eval y = u) (hu : u.oneCell' = true) (ht : (P.info? t).map (·.size) = some 1)
    (hk : ∀ w', St B w0 w' (l.set i (OwO e 1 (.slice (some ⟨g, 0, none⟩) nv cap) n (cs.set j u))) → wpList P ops Q rest (a.put o.dst undef) w') : wpList P ops Q (o :: rest) a w :=
  at_wanted hgd fun _ hK => own_store_at h i hi j hj t x y ho hx u hy hu ht fun w' h' => hK _ _ (hk w' h')
theorem mx_store_at {e e' : TypeId} {u : Value} {n : Nat} {cs : List Value} {g cap : Nat} {ss : List Sv} {rows : List (List Value)} {m : Nat} (h : St B w0 w (OwO e' 1 u n cs :: l)) (i : Nat) (hi : l[i]? = some (MxO e (.slice (some ⟨g, 0, none⟩) m cap) ss rows)) (j : Nat) (hj : j < ss.length) (t : TypeId) (x y : Operand) (ho : o.op = .store t x y)
    (hx : a.eval x = .pointer (some ⟨g, j, none⟩)) (hy : a.eval y = u) (ht : (P.info? t).map (·.size) = some 1)
    (hk : ∀ w' s, St B w0 w' (l.set i (MxO e (.slice (some ⟨g, 0, none⟩) m cap) (ss.set j s) (rows.set j cs))) → K (a.put o.dst undef) w') : o.wp P a w K Q := by
  obtain ⟨g', cap', s, e1, e2, ⟨z, hz⟩, hf, hset⟩ := h.mxSet hi j hj
  cases e1
  exact store_cell_at t x y ho _ hx u z hy (by rw [e2]; rfl) ht hz hf (hk _ s hset)
theorem mx_store {e e' : TypeId} {u : Value} {n : Nat} {cs : List Value} {g cap : Nat} {ss : List Sv} {rows : List (List Value)} {m : Nat} (h : St B w0 w (OwO e' 1 u n cs :: l)) (i : Nat) (hi : l[i]? = some (MxO e (.slice (some ⟨g, 0, none⟩) m cap) ss rows)) (j : Nat) (hj : j < ss.length) (hgd : Region.wanted o (yielded ops a.tmps) = true) (t : TypeId) (x y : Operand) (ho : o.op = .store t x y)
    (hx : a.eval x = .pointer (some ⟨g, j, none⟩)) (hy : a.eval y = u) (ht : (P.info? t).map (·.size) = some 1)
    (hk : ∀ w' s, St B w0 w' (l.set i (MxO e (.slice (some ⟨g, 0, none⟩) m cap) (ss.set j s) (rows.set j cs))) → wpList P ops Q rest (a.put o.dst undef) w') : wpList P ops Q (o :: rest) a w :=
  at_wanted hgd fun _ hK => mx_store_at h i hi j hj t x y ho hx hy ht fun w' s h' => hK _ _ (hk w' s h')
end
end
end Go.Own

/- Layer 11: what was built is right; with a byte turned it isn't. -/
namespace Go.Own
theorem apart_snoc_iff {L : List Blk} {x : Blk} {j : Nat} (hj : L.length = j + 1) : Apart (L ++ [x]) ↔ Apart L ∧ (x.used = true ∨ (L[j]'(by omega)).used = true) := by
  rw [Apart.snoc]
  have hl : L.getLast? = some (L[j]'(by omega)) := by
    have := take_last (l := L) (k := j) (by omega)
    rwa [List.take_of_length_le (by omega)] at this
  rw [hl]
  constructor
  · rintro ⟨h1, h2⟩; exact ⟨h1, (h2 _ rfl).symm⟩
  · rintro ⟨h1, h2⟩; exact ⟨h1, fun y hy => by cases hy; exact h2.symm⟩
/-- What is right just if no two free ones stand next to each other. -/
theorem built_iff {b : List UInt8} {bs : List Blk} {ls : Nat → List Nat} (h : Right b bs ls) : IsRight b ↔ Apart bs := by
  constructor
  · rintro ⟨bs', ls', hR, ha⟩
    have := hR.walk
    rw [h.walk] at this
    cases this
    exact ha
  · intro ha; exact ⟨bs, ls, h, ha⟩
end Go.Own
namespace Go.Proofs.Ytjijniillehfoaa
open Go Go.RowKit Go.Own
set_option linter.unusedVariables false
set_option maxRecDepth 100000
theorem u8_xor_bv (x y : UInt8) : bits .xor .u8 (x.toNat : Nat) (y.toNat : Nat) = ((x ^^^ y).toNat : Nat) := by
  have h1 := x.toNat_lt; have h2 := y.toNat_lt
  rw [u8_xor_nat x.toNat y.toNat (by omega) (by omega), UInt8.toNat_xor]
set_option maxHeartbeats 16000000 in
theorem checkBuilt (w : World) (sa : Option Addr) (sn sc : Nat) (ua : Option Addr) (un uc : Nat) (at_ by_ : Int) (hz : Rd w (.sl (.int .i64)) [.slice sa sn sc]) (hu : Rd w (.sl .bool) [.slice ua un uc]) (hat : (Lit.int .i64 at_).wf = true) (hby : (Lit.int .u8 by_).wf = true) :
    Calls Try.prog 17 #[.slice sa sn sc, .slice ua un uc, .int .i64 at_, .int .u8 by_] w (lawOk w) := by
  obtain ⟨zs, hzs⟩ := hz.ints
  obtain ⟨us, hus⟩ := hu.bools
  obtain ⟨at0, at1⟩ := wfI64 hat
  obtain ⟨by8, rfl⟩ := byte_of hby
  have hn := hzs.len; have hm := hus.len
  subst hn; subst hm
  have p1 := Sl.cap hzs.1; have r1 := Sl.room hzs.1; have p2 := Sl.cap hus; have r2 := Sl.room hus
  have HZ := Lib.hid hzs; have HU := Lib.hid hus
  clear hz hu hzs hus hat hby
  go_enter Try.func17, Try.ntmps17
  go_wp2_with fail
  refine (up11 w).mono ?_
  rintro e w1 ⟨rfl, bw1⟩
  have T1 := Lib.hid ((St.start w).below bw1)
  clear bw1
  by_cases hl : zs.length > 40
  · have B2 := Lib.hid T1.out.end
    go_wp2
    go_ret
    exact ⟨rfl, B2.out⟩
  have hl6 : zs.length ≤ 40 := by omega
  have T2 := Lib.hid (show St w.heap.size w w1 (BlsO (.slice none 0 0) [] :: []) from T1.out.addOwn (Below.refl _ _) (World.ownsRow_nil _ _ _ _))
  clear T1 hl
  go_wp2
  go_loopw [10, 11, 12, 13] (fun vt vo vl vi wr => ∃ (k : Nat) (L : List Blk) (r : Bool), k ≤ zs.length ∧ vi = .int .i64 k ∧ vo = .int .i64 (endOf 184 L : Nat) ∧ vt = .bool r ∧ (r = true ↔ Apart L) ∧ L.length = k ∧ Chain 184 L ∧ endOf 184 L ≤ 184 + 336 * k ∧ St w.heap.size w wr (BlsO vl L :: [])) (fun _ _ _ vi _ => zs.length - (intOf vi).toNat)
  case atStart => exact ⟨0, [], true, Nat.zero_le _, rfl, rfl, rfl, ⟨fun _ => trivial, fun _ => rfl⟩, rfl, trivial, Nat.le_refl _, T2.out⟩
  case round =>
    clear T2
    obtain ⟨k, L, r, hk, rfl, rfl, rfl, hrA, hL, hch, hend, hS⟩ := hrel
    have HCH := Lib.hid hch; have HRA := Lib.hid hrA
    clear hch hrA
    by_cases hlt : k < zs.length
    · obtain ⟨zb, zo, rfl, hcz⟩ := HZ.out.at k hlt
      have hzw := wfI64 (HZ.out.2 zs[k] (List.getElem_mem hlt))
      have c1 := hS.argCell hcz
      generalize zs[k] = z at *
      have hL2 : L.length ≤ 1000000 := by omega
      obtain ⟨aL, cL, rfl, hsl⟩ := bls_slice hS (i := 0) rfl
      have HS := Lib.hid hS; have HL := Lib.hid hL
      obtain ⟨E, hE⟩ : ∃ E, E = endOf 184 L := ⟨_, rfl⟩
      have HE := Lib.hid hE
      rw [← hE] at hend ⊢
      clear hcz hL hE
      go_wp2_with fail
      have kc := law_Pick wr z 20 hzw.1 hzw.2 (by decide) (by decide)
      have q0 := Int.emod_nonneg z (show (20 : Int) ≠ 0 by decide)
      have q1 := Int.emod_lt_of_pos z (show (0 : Int) < 20 by decide)
      obtain ⟨q, hq⟩ := Int.eq_ofNat_of_zero_le q0
      rw [hq] at kc q1
      with_reducible refine kc.mono ?_
      clear kc hq q0 hzw c1
      rintro e w' ⟨rfl, rfl⟩
      obtain ⟨N, hN⟩ : ∃ N : Nat, N = 32 + 16 * q := ⟨_, rfl⟩
      have m1 : IntKind.i64.wrap (16 * (q : Int)) = 16 * (q : Int) := IntWalk.i64_in _ (by omega)
      have m2 : IntKind.i64.wrap (32 + 16 * (q : Int)) = (N : Int) := by rw [IntWalk.i64_in _ (by omega)]; omega
      have m3 : IntKind.i64.wrap ((E : Int) + (N : Int)) = ((E + N : Nat) : Int) := by rw [IntWalk.i64_in _ (by omega)]; omega
      have hNs : isSize (N : Int) = true := isSize_yes (by omega)
      have hN2 : N ≤ 336 := by omega
      have HNS := Lib.hid hNs
      clear hN hNs
      have fin : ∀ (x : Blk) (r' : Bool) (v' : Value) (w' : World), x.off = E → x.size = N → (r' = true ↔ Apart (L ++ [x])) → St w.heap.size w w' (BlsO v' (L ++ [x]) :: []) →
          ∃ (k' : Nat) (L' : List Blk) (r2 : Bool), k' ≤ zs.length ∧ (Value.int .i64 ((k + 1 : Nat) : Int)) = .int .i64 k' ∧ (Value.int .i64 ((E + N : Nat) : Int)) = .int .i64 (endOf 184 L' : Nat) ∧ Value.bool r' = .bool r2 ∧ (r2 = true ↔ Apart L') ∧ L'.length = k' ∧ Chain 184 L' ∧ endOf 184 L' ≤ 184 + 336 * k' ∧ St w.heap.size w w' (BlsO v' L' :: []) := by
        intro x r' v' w' h1 h2 hr h3
        refine ⟨k + 1, L ++ [x], r', hlt, rfl, ?_, rfl, hr, by rw [List.length_append, HL.out]; rfl, HCH.out.snoc (h1.trans HE.out) (by rw [h2]; exact HNS.out), ?_, h3⟩
        · rw [endOf_snoc, ← HE.out, h2]
        · rw [endOf_snoc, ← HE.out, h2]; omega
      have FIN := Lib.hid fin
      clear fin
      by_cases hku : k < us.length
      · obtain ⟨ub, uo, rfl, hcu⟩ := HU.out.at k hku
        have c2 := HS.out.argCell hcu
        generalize us[k] = u at *
        clear hcu
        cases k with
        | zero =>
          have hr : ∀ u : Bool, r = true ↔ Apart (L ++ [⟨E, N, u⟩]) := fun u => by
            obtain rfl := List.eq_nil_of_length_eq_zero HL.out
            constructor
            · intro _; exact ⟨fun _ h => (by cases h), trivial⟩
            · intro _; exact HRA.out.2 trivial
          have HR2 := Lib.hid hr
          clear hr hS hsl
          rw [Nat.add_zero] at c2
          go_wp2_with (first | (refine bk_alloc HS.out rfl rfl ?_; intro g4 w4 h4; have T4 := Lib.hid h4; clear h4) | (refine bk_store T4.out 0 rfl rfl _ _ rfl rfl (E : Int) (N : Int) u rfl ?_; intro w5 h5; have T5 := Lib.hid h5; clear h5 T4 HS; have k0 : w5.cell? ⟨g4, 0, none⟩ = some (.int .i64 (E : Int)) := (T5.out.row (i := 0) rfl).cell 0; have k1 : w5.cell? ⟨g4, 1, none⟩ = some (.int .i64 (N : Int)) := (T5.out.row (i := 0) rfl).cell 1; have k2 : w5.cell? ⟨g4, 2, none⟩ = some (.bool u) := (T5.out.row (i := 0) rfl).cell 2; skip; go_wp2_with (at_builtin; go_must (refine bls_app T5.out 1 rfl rfl (.tmp 67) (.tmp 69) rfl rfl (E : Int) (N : Int) u ⟨E, N, u⟩ rfl rfl rfl rfl hL2 ?_; intro v6 w6 h6; have H6 := Lib.hid h6; clear h6; have k1 : w6.cell? ⟨g4, 1, none⟩ = some (.int .i64 (N : Int)) := (H6.out.row (i := 0) rfl).cell 1))))
          have F6 := FIN.out ⟨E, N, u⟩ r v6 w6 rfl rfl (HR2.out u) H6.out.tail
          exact ⟨F6, by simp [intOf]; omega⟩
        | succ j =>
          obtain ⟨pb, po, rfl, _⟩ := bl_at hsl j (by rw [HL.out]; omega)
          have hprev : ∀ (P : Ob) (w' : World), St w.heap.size w w' (P :: BlsO (.slice (some ⟨pb, po, none⟩) L.length cL) L :: []) → w'.cell? ⟨pb, po + j * 3 + 2, none⟩ = some (.bool (L[j]'(by rw [HL.out]; omega)).used) := fun P w' h' => by
            obtain ⟨pb2, po2, e2, hr2⟩ := bl_at (bls_sl h' (i := 1) rfl).2 j (by rw [HL.out]; omega)
            cases e2
            exact (bl_cells hr2).2.2
          have hiff := fun u => apart_snoc_iff (x := ⟨E, N, u⟩) HL.out
          have u2 : IntKind.i64.wrap (((j + 1 : Nat) : Int) - 1) = (j : Int) := by rw [IntWalk.i64_in _ (by omega)]; omega
          have u3 : IntKind.i64.wrap ((j : Int) + 1 - 1) = (j : Int) := by rw [IntWalk.i64_in _ (by omega)]; omega
          generalize (L[j]'(by rw [HL.out]; omega)).used = yu at *
          have hjl : j < L.length := by rw [HL.out]; omega
          have HPV := Lib.hid hprev; have HIF := Lib.hid hiff
          clear hprev hiff hS hsl
          cases r with
          | false =>
            have hr : ∀ u : Bool, ¬ Apart (L ++ [⟨E, N, u⟩]) := fun u => by rw [HIF.out, ← HRA.out]; simp
            have HR2 := Lib.hid hr
            clear hr
            cases u with
            | true =>
              go_wp2_with (first | (refine bk_alloc HS.out rfl rfl ?_; intro g4 w4 h4; have T4 := Lib.hid h4; clear h4) | (refine bk_store T4.out 0 rfl rfl _ _ rfl rfl (E : Int) (N : Int) true rfl ?_; intro w5 h5; have T5 := Lib.hid h5; clear h5 T4 HS; have k0 : w5.cell? ⟨g4, 0, none⟩ = some (.int .i64 (E : Int)) := (T5.out.row (i := 0) rfl).cell 0; have k1 : w5.cell? ⟨g4, 1, none⟩ = some (.int .i64 (N : Int)) := (T5.out.row (i := 0) rfl).cell 1; have k2 : w5.cell? ⟨g4, 2, none⟩ = some (.bool true) := (T5.out.row (i := 0) rfl).cell 2; skip; go_wp2_with (at_builtin; go_must (refine bls_app T5.out 1 rfl rfl (.tmp 67) (.tmp 69) rfl rfl (E : Int) (N : Int) true ⟨E, N, true⟩ rfl rfl rfl rfl hL2 ?_; intro v6 w6 h6; have H6 := Lib.hid h6; clear h6; have k1 : w6.cell? ⟨g4, 1, none⟩ = some (.int .i64 (N : Int)) := (H6.out.row (i := 0) rfl).cell 1))))
              have F6 := FIN.out ⟨E, N, true⟩ false v6 w6 rfl rfl ⟨fun e => (by cases e), fun e => absurd e (HR2.out true)⟩ H6.out.tail
              exact ⟨F6, by simp [intOf]; omega⟩
            | false =>
              go_wp2_with (first | (refine bk_alloc HS.out rfl rfl ?_; intro g4 w4 h4; have T4 := Lib.hid h4; clear h4) | (refine bk_store T4.out 0 rfl rfl _ _ rfl rfl (E : Int) (N : Int) false rfl ?_; intro w5 h5; have T5 := Lib.hid h5; clear h5 T4 HS; have k0 : w5.cell? ⟨g4, 0, none⟩ = some (.int .i64 (E : Int)) := (T5.out.row (i := 0) rfl).cell 0; have k1 : w5.cell? ⟨g4, 1, none⟩ = some (.int .i64 (N : Int)) := (T5.out.row (i := 0) rfl).cell 1; have k2 : w5.cell? ⟨g4, 2, none⟩ = some (.bool false) := (T5.out.row (i := 0) rfl).cell 2; skip; go_wp2_with (at_builtin; go_must (refine bls_app T5.out 1 rfl rfl (.tmp 67) (.tmp 69) rfl rfl (E : Int) (N : Int) false ⟨E, N, false⟩ rfl rfl rfl rfl hL2 ?_; intro v6 w6 h6; have H6 := Lib.hid h6; clear h6; have k1 : w6.cell? ⟨g4, 1, none⟩ = some (.int .i64 (N : Int)) := (H6.out.row (i := 0) rfl).cell 1))))
              have F6 := FIN.out ⟨E, N, false⟩ false v6 w6 rfl rfl ⟨fun e => (by cases e), fun e => absurd e (HR2.out false)⟩ H6.out.tail
              exact ⟨F6, by simp [intOf]; omega⟩
          | true =>
            cases u with
            | true =>
              have hr : Apart (L ++ [⟨E, N, true⟩]) := by rw [HIF.out, ← HRA.out]; simp
              have HR2 := Lib.hid hr
              clear hr
              go_wp2_with (first | (refine bk_alloc HS.out rfl rfl ?_; intro g4 w4 h4; have T4 := Lib.hid h4; clear h4) | (refine bk_store T4.out 0 rfl rfl _ _ rfl rfl (E : Int) (N : Int) true rfl ?_; intro w5 h5; have T5 := Lib.hid h5; clear h5 T4 HS; have k0 : w5.cell? ⟨g4, 0, none⟩ = some (.int .i64 (E : Int)) := (T5.out.row (i := 0) rfl).cell 0; have k1 : w5.cell? ⟨g4, 1, none⟩ = some (.int .i64 (N : Int)) := (T5.out.row (i := 0) rfl).cell 1; have k2 : w5.cell? ⟨g4, 2, none⟩ = some (.bool true) := (T5.out.row (i := 0) rfl).cell 2; skip; go_wp2_with (at_builtin; go_must (refine bls_app T5.out 1 rfl rfl (.tmp 67) (.tmp 69) rfl rfl (E : Int) (N : Int) true ⟨E, N, true⟩ rfl rfl rfl rfl hL2 ?_; intro v6 w6 h6; have H6 := Lib.hid h6; clear h6; have k1 : w6.cell? ⟨g4, 1, none⟩ = some (.int .i64 (N : Int)) := (H6.out.row (i := 0) rfl).cell 1))))
              have F6 := FIN.out ⟨E, N, true⟩ true v6 w6 rfl rfl ⟨fun _ => HR2.out, fun _ => rfl⟩ H6.out.tail
              exact ⟨F6, by simp [intOf]; omega⟩
            | false =>
              have hr : yu = true ↔ Apart (L ++ [⟨E, N, false⟩]) := by rw [HIF.out, ← HRA.out]; simp
              have HR2 := Lib.hid hr
              clear hr
              go_wp2_with (first | (refine bk_alloc HS.out rfl rfl ?_; intro g4 w4 h4; have T4 := Lib.hid h4; clear h4) | (refine bk_store T4.out 0 rfl rfl _ _ rfl rfl (E : Int) (N : Int) false rfl ?_; intro w5 h5; have T5 := Lib.hid h5; clear h5 T4 HS; have k0 : w5.cell? ⟨g4, 0, none⟩ = some (.int .i64 (E : Int)) := (T5.out.row (i := 0) rfl).cell 0; have k1 : w5.cell? ⟨g4, 1, none⟩ = some (.int .i64 (N : Int)) := (T5.out.row (i := 0) rfl).cell 1; have k2 : w5.cell? ⟨g4, 2, none⟩ = some (.bool false) := (T5.out.row (i := 0) rfl).cell 2; have k3 := HPV.out _ w5 T5.out; go_wp2_with (at_builtin; go_must (refine bls_app T5.out 1 rfl rfl (.tmp 67) (.tmp 69) rfl rfl (E : Int) (N : Int) false ⟨E, N, false⟩ rfl rfl rfl rfl hL2 ?_; intro v6 w6 h6; have H6 := Lib.hid h6; clear h6; have k1 : w6.cell? ⟨g4, 1, none⟩ = some (.int .i64 (N : Int)) := (H6.out.row (i := 0) rfl).cell 1))))
              have F6 := FIN.out ⟨E, N, false⟩ yu v6 w6 rfl rfl HR2.out H6.out.tail
              exact ⟨F6, by simp [intOf]; omega⟩
      · cases k with
        | zero =>
          have hr : ∀ u : Bool, r = true ↔ Apart (L ++ [⟨E, N, u⟩]) := fun u => by
            obtain rfl := List.eq_nil_of_length_eq_zero HL.out
            constructor
            · intro _; exact ⟨fun _ h => (by cases h), trivial⟩
            · intro _; exact HRA.out.2 trivial
          have HR2 := Lib.hid hr
          clear hr hS hsl
          go_wp2_with (first | (refine bk_alloc HS.out rfl rfl ?_; intro g4 w4 h4; have T4 := Lib.hid h4; clear h4) | (refine bk_store T4.out 0 rfl rfl _ _ rfl rfl (E : Int) (N : Int) false rfl ?_; intro w5 h5; have T5 := Lib.hid h5; clear h5 T4 HS; have k0 : w5.cell? ⟨g4, 0, none⟩ = some (.int .i64 (E : Int)) := (T5.out.row (i := 0) rfl).cell 0; have k1 : w5.cell? ⟨g4, 1, none⟩ = some (.int .i64 (N : Int)) := (T5.out.row (i := 0) rfl).cell 1; have k2 : w5.cell? ⟨g4, 2, none⟩ = some (.bool false) := (T5.out.row (i := 0) rfl).cell 2; skip; go_wp2_with (at_builtin; go_must (refine bls_app T5.out 1 rfl rfl (.tmp 67) (.tmp 69) rfl rfl (E : Int) (N : Int) false ⟨E, N, false⟩ rfl rfl rfl rfl hL2 ?_; intro v6 w6 h6; have H6 := Lib.hid h6; clear h6; have k1 : w6.cell? ⟨g4, 1, none⟩ = some (.int .i64 (N : Int)) := (H6.out.row (i := 0) rfl).cell 1))))
          have F6 := FIN.out ⟨E, N, false⟩ r v6 w6 rfl rfl (HR2.out false) H6.out.tail
          exact ⟨F6, by simp [intOf]; omega⟩
        | succ j =>
          obtain ⟨pb, po, rfl, _⟩ := bl_at hsl j (by rw [HL.out]; omega)
          have hprev : ∀ (P : Ob) (w' : World), St w.heap.size w w' (P :: BlsO (.slice (some ⟨pb, po, none⟩) L.length cL) L :: []) → w'.cell? ⟨pb, po + j * 3 + 2, none⟩ = some (.bool (L[j]'(by rw [HL.out]; omega)).used) := fun P w' h' => by
            obtain ⟨pb2, po2, e2, hr2⟩ := bl_at (bls_sl h' (i := 1) rfl).2 j (by rw [HL.out]; omega)
            cases e2
            exact (bl_cells hr2).2.2
          have hiff := fun u => apart_snoc_iff (x := ⟨E, N, u⟩) HL.out
          have u2 : IntKind.i64.wrap (((j + 1 : Nat) : Int) - 1) = (j : Int) := by rw [IntWalk.i64_in _ (by omega)]; omega
          have u3 : IntKind.i64.wrap ((j : Int) + 1 - 1) = (j : Int) := by rw [IntWalk.i64_in _ (by omega)]; omega
          generalize (L[j]'(by rw [HL.out]; omega)).used = yu at *
          have hjl : j < L.length := by rw [HL.out]; omega
          have HPV := Lib.hid hprev; have HIF := Lib.hid hiff
          clear hprev hiff hS hsl
          cases r with
          | false =>
            have hr : ∀ u : Bool, ¬ Apart (L ++ [⟨E, N, u⟩]) := fun u => by rw [HIF.out, ← HRA.out]; simp
            have HR2 := Lib.hid hr
            clear hr
            go_wp2_with (first | (refine bk_alloc HS.out rfl rfl ?_; intro g4 w4 h4; have T4 := Lib.hid h4; clear h4) | (refine bk_store T4.out 0 rfl rfl _ _ rfl rfl (E : Int) (N : Int) false rfl ?_; intro w5 h5; have T5 := Lib.hid h5; clear h5 T4 HS; have k0 : w5.cell? ⟨g4, 0, none⟩ = some (.int .i64 (E : Int)) := (T5.out.row (i := 0) rfl).cell 0; have k1 : w5.cell? ⟨g4, 1, none⟩ = some (.int .i64 (N : Int)) := (T5.out.row (i := 0) rfl).cell 1; have k2 : w5.cell? ⟨g4, 2, none⟩ = some (.bool false) := (T5.out.row (i := 0) rfl).cell 2; skip; go_wp2_with (at_builtin; go_must (refine bls_app T5.out 1 rfl rfl (.tmp 67) (.tmp 69) rfl rfl (E : Int) (N : Int) false ⟨E, N, false⟩ rfl rfl rfl rfl hL2 ?_; intro v6 w6 h6; have H6 := Lib.hid h6; clear h6; have k1 : w6.cell? ⟨g4, 1, none⟩ = some (.int .i64 (N : Int)) := (H6.out.row (i := 0) rfl).cell 1))))
            have F6 := FIN.out ⟨E, N, false⟩ false v6 w6 rfl rfl ⟨fun e => (by cases e), fun e => absurd e (HR2.out false)⟩ H6.out.tail
            exact ⟨F6, by simp [intOf]; omega⟩
          | true =>
            have hr : yu = true ↔ Apart (L ++ [⟨E, N, false⟩]) := by rw [HIF.out, ← HRA.out]; simp
            have HR2 := Lib.hid hr
            clear hr
            go_wp2_with (first | (refine bk_alloc HS.out rfl rfl ?_; intro g4 w4 h4; have T4 := Lib.hid h4; clear h4) | (refine bk_store T4.out 0 rfl rfl _ _ rfl rfl (E : Int) (N : Int) false rfl ?_; intro w5 h5; have T5 := Lib.hid h5; clear h5 T4 HS; have k0 : w5.cell? ⟨g4, 0, none⟩ = some (.int .i64 (E : Int)) := (T5.out.row (i := 0) rfl).cell 0; have k1 : w5.cell? ⟨g4, 1, none⟩ = some (.int .i64 (N : Int)) := (T5.out.row (i := 0) rfl).cell 1; have k2 : w5.cell? ⟨g4, 2, none⟩ = some (.bool false) := (T5.out.row (i := 0) rfl).cell 2; have k3 := HPV.out _ w5 T5.out; go_wp2_with (at_builtin; go_must (refine bls_app T5.out 1 rfl rfl (.tmp 67) (.tmp 69) rfl rfl (E : Int) (N : Int) false ⟨E, N, false⟩ rfl rfl rfl rfl hL2 ?_; intro v6 w6 h6; have H6 := Lib.hid h6; clear h6; have k1 : w6.cell? ⟨g4, 1, none⟩ = some (.int .i64 (N : Int)) := (H6.out.row (i := 0) rfl).cell 1))))
            have F6 := FIN.out ⟨E, N, false⟩ yu v6 w6 rfl rfl HR2.out H6.out.tail
            exact ⟨F6, by simp [intOf]; omega⟩
    · obtain rfl : k = zs.length := by omega
      obtain ⟨E, hE⟩ : ∃ E, E = endOf 184 L := ⟨_, rfl⟩
      have HE := Lib.hid hE
      rw [← hE] at hend ⊢
      have hE1 : 184 ≤ E := by rw [hE]; exact endOf_ge L 184
      have hE2 : E ≤ 13624 := by omega
      obtain ⟨a1, c1, rfl, _⟩ := bls_slice hS (i := 0) rfl
      have HL := Lib.hid hL; have HS := Lib.hid hS
      have hL6 : L.length ≤ 40 := by omega
      clear hE hlt hk hl6 hend hL hS p1 r1 p2 r2
      obtain ⟨g, W, hmk, t1⟩ := mk_st HS.out (E : Int) E rfl (by omega)
      have hz : (List.replicate E (0 : UInt8)).length = E := List.length_replicate ..
      obtain ⟨y, hyz⟩ : ∃ y, y = List.replicate E (0 : UInt8) := ⟨_, rfl⟩
      rw [← hyz] at t1 hz
      have T1 := Lib.hid t1; have HY := Lib.hid hz; have HYZ := Lib.hid hyz
      clear t1 HS hz hyz
      go_wp2_with fail
      have kc := ar_Arena T1.out 32 32 rfl 16384 16384 rfl (by decide) (by decide) (by decide) (by decide) _ _ _ y (T1.out.bsV (i := 0) rfl) (by have := HY.out; omega)
      with_reducible refine kc.mono ?_
      clear kc
      rintro e w3 ⟨q, rfl, t3⟩
      have T3 := Lib.hid t3
      clear t3
      have T4 := Lib.hid (show St w.heap.size w w3 (ArT q ⟨32, 16384, y⟩ :: BlsO (.slice a1 L.length c1) L :: []) from T3.out.sub (List.Sublist.cons_cons _ (List.sublist_cons_self ..)))
      clear T3 T1 hmk
      go_wp2
      rename ∀ (a : Act) (w : World), _ → _ => hkeep
      revert hkeep
      repeat (rename ∀ (a : Act) (w : World), _ → _ => hgx; clear hgx)
      repeat (rename Exit → Act → World → Prop => hgx; clear hgx)
      intro hkeep
      go_loopw [16] (fun vi wr => ∃ (k : Nat), k ≤ L.length ∧ vi = .int .i64 k ∧ St w.heap.size w wr (ArT q ⟨32, 16384, setAll y (L.take k)⟩ :: BlsO (.slice a1 L.length c1) L :: [])) (fun vi _ => L.length - (intOf vi).toNat)
      case atStart => exact ⟨0, Nat.zero_le _, rfl, T4.out⟩
      case round =>
        clear T4
        obtain ⟨j, hj, rfl, hS⟩ := hrel
        by_cases hlt : j < L.length
        · obtain ⟨bb, bo, rfl, hr⟩ := bl_at (bls_sl hS (i := 1) rfl).2 j hlt
          have hx := List.getElem_mem hlt
          have hcs := (Chain.append.1 (show Chain 184 (L.take j ++ L.drop j) by rw [List.take_append_drop]; exact HCH.out)).1
          have hel : endOf 184 (L.take j) ≤ y.length := by have h1 := endOf_take_le L 184 j; have h2 := HE.out; have h3 := HY.out; omega
          have hset := chain_setI (b := setAll y (L.take j)) HCH.out (by rw [hcs.setAll_length hel]; have h2 := HE.out; have h3 := HY.out; omega) hx
          have hnew : setB (setAll y (L.take j)) L[j] = setAll y (L.take (j + 1)) := by
            rw [List.take_succ_eq_append_getElem hlt, setAll_append]; rfl
          rw [hnew] at hset
          generalize L[j] = x at *
          have HS := Lib.hid hS; have HR := Lib.hid hr; have HST := Lib.hid hset
          clear hS hr hset hnew hx hcs hel
          go_wp2_with (refine bl_mid rfl _ rfl bb (bo + j * 3) rfl x HR.out ?_)
          have kc := blk_Set HS.out (i := 0) rfl x.off x.size x.used
          rw [show ({ base := 32, cap := 16384, b := setAll y (L.take j) } : Ar).b = setAll y (L.take j) from rfl, HST.out, show errS (some (setAll y (L.take (j + 1)))) = .nilIface from rfl] at kc
          with_reducible refine kc.mono ?_
          clear kc
          rintro e w5 ⟨rfl, t5⟩
          have T5 := Lib.hid t5
          clear t5
          go_wp2
          exact ⟨⟨j + 1, hlt, by go_num, T5.out⟩, by simp [intOf]; omega⟩
        · obtain rfl : j = L.length := by omega
          rw [List.take_length] at hS
          have hey : endOf 184 L = y.length := by have h2 := HE.out; have h3 := HY.out; omega
          have htile := HCH.out.tile (b := y) (Nat.le_refl _) (by decide) hey
          have hlen := HCH.out.setAll_length (b := y) (Nat.le_of_eq hey)
          have hyl := HY.out
          obtain ⟨Y, hr1, hr2, hr4, hr3⟩ := rebuild_right htile (by omega) (by omega)
          have T6 := Lib.hid (show St w.heap.size w wr ((ArT q ⟨32, 16384, setAll y L⟩ :: BlsO (.slice a1 L.length c1) L :: []).set 0 (ArT q ⟨32, 16384, setAll y L⟩)) from hS)
          have hYl : Y.length = E := by rw [hr2, hlen, hyl]
          have hnh : ∀ (k : Nat) (hk : k < Y.length), k < 184 → ∀ x : UInt8, x ≠ 0 → ¬ IsRight (Y.set k (Y[k] ^^^ x)) := fun k _ hk x hx => not_right_head hr3 hk hx
          have hnt := fun (x : Blk) (hx : x ∈ L) (hk : x.off < Y.length) (z : UInt8) (hz : z ≠ 0) => not_right_tag (n := E) HCH.out HE.out.symm (by rw [← HYZ.out]; exact hr4) hr3 hx hk hz
          have hof : ∀ x ∈ L, x.off < Y.length := fun x hx => by have := blkAt_some (hr3.good.mem hx).2.1; omega
          have HR1 := Lib.hid hr1; have HBI := Lib.hid (built_iff hr3); have HNH := Lib.hid hnh; have HNT := Lib.hid hnt; have HYL := Lib.hid hYl; have HOF := Lib.hid hof
          clear hS htile hlen hey hlt hj hr1 hr2 hr3 hr4 hyl hnh hnt hYl hof
          go_wp2_with fail
          have kc := fit_Rebuild T6.out (Nat.zero_lt_succ _)
          rw [HR1.out, show errP (some Y) = .nilIface from rfl, show (some Y).getD (setAll y L) = Y from rfl] at kc
          with_reducible refine kc.mono ?_
          clear kc
          rintro e w7 ⟨rfl, t7⟩
          have T7 := Lib.hid t7
          clear t7
          have T8 := Lib.hid (show St w.heap.size w w7 ((ArT q ⟨32, 16384, Y⟩ :: BlsO (.slice a1 L.length c1) L :: []).set 0 (ArT q ⟨32, 16384, Y⟩)) from T7.out)
          clear T7 T6 HR1
          go_wp2_with fail
          have kc := chk_Check T8.out (Nat.zero_lt_succ _)
          with_reducible refine kc.mono ?_
          clear kc
          rintro e w9 ⟨r9', rfl, b9', t9⟩
          have T9 := Lib.hid t9
          clear t9
          have T10 := Lib.hid (show St w.heap.size w w9 (ArT q ⟨32, 16384, Y⟩ :: BlsO (.slice a1 L.length c1) L :: []) from T9.out)
          have B10 := Lib.hid T10.out.end
          have hrr : r9' = r := by
            have h1 : r9' = true ↔ r = true := ⟨fun h => HRA.out.2 (HBI.out.1 (b9'.1 h)), fun h => b9'.2 (HBI.out.2 (HRA.out.1 h))⟩
            cases r9' <;> cases r <;> simp_all
          subst hrr
          clear T8 T9 b9'
          cases r9' with
          | false =>
            rw [show chkV false = .iface 183 (.int .i64 3) from rfl]
            cases hb : (((by8.toNat : Nat) : Int) == 0) with
            | true =>
              go_wp2
              go_ret
              exact ⟨rfl, B10.out⟩
            | false =>
              go_wp2
              go_ret
              exact ⟨rfl, B10.out⟩
          | true =>
            rw [show chkV true = .nilIface from rfl]
            by_cases hby : by8 = 0
            · subst hby
              have d0 : ((((0 : UInt8).toNat : Nat) : Int) == 0) = true := rfl
              go_wp2
              go_ret
              exact ⟨rfl, B10.out⟩
            have hbi : ¬ (by8.toNat : Int) = 0 := fun e => hby (UInt8.toNat_inj.1 (by simp; omega))
            have d1 : (((by8.toNat : Nat) : Int) == 0) = false := by rw [beq_eq_false_iff_ne]; exact hbi
            go_wp2_with fail
            have kc := ar_Bytes T10.out (i := 0) rfl
            with_reducible refine kc.mono ?_
            clear kc
            rintro e w11 ⟨v11', rfl, t11⟩
            have T11 := Lib.hid t11
            clear t11
            obtain ⟨a11, c11, rfl, _⟩ := T11.out.bsOwn (i := 0) rfl
            rw [HYL.out] at T11
            rw [HYL.out]
            have q0 := Int.emod_nonneg at_ (show (184 : Int) ≠ 0 by decide)
            have q1 := Int.emod_lt_of_pos at_ (show (0 : Int) < 184 by decide)
            obtain ⟨Kn, hK⟩ := Int.eq_ofNat_of_zero_le q0
            have kp := law_Pick w11 at_ 184 at0 at1 (by decide) (by decide)
            rw [hK] at kp q1
            have q1' : Kn < 184 := by omega
            go_wp2_with fail
            have kc := kp
            with_reducible refine kc.mono ?_
            clear kc
            rintro e w' ⟨rfl, rfl⟩
            clear kp hK q0
            have hKl : Kn < Y.length := by rw [HYL.out]; omega
            have TB := Lib.hid (show St w.heap.size w w11 [OwB (.slice a11 Y.length c11) Y, ArT q { base := 32, cap := 16384, b := Y }, BlsO (Value.slice a1 L.length c1) L] by rw [HYL.out]; exact T11.out)
            obtain ⟨g11, cap11, e11, _, hf11, hset11⟩ := TB.out.setByte (i := 0) rfl Kn hKl
            cases e11
            have cK : w11.cell? ⟨g11, Kn, none⟩ = some (.int .u8 (Y[Kn].toNat : Nat)) := by
              have := (TB.out.own (i := 0) rfl).cellAt Kn (by omega)
              rw [this]; simp [hKl, bv]
            have hnh := HNH.out Kn hKl q1' by8 hby
            have hback : ∀ z1, z1 = Y[Kn] ^^^ by8 → (Y.set Kn z1).set Kn (z1 ^^^ by8) = Y := fun z1 h => by
              rw [List.set_set, h, UInt8.xor_assoc, UInt8.xor_self, UInt8.xor_zero, List.set_getElem_self]
            have hx1 := u8_xor_bv Y[Kn] by8
            obtain ⟨z1, hz1⟩ : ∃ z1, z1 = Y[Kn] ^^^ by8 := ⟨_, rfl⟩
            have hbk := hback z1 hz1
            have hx2 := u8_xor_bv z1 by8
            rw [← hz1] at hnh hx1
            obtain ⟨z2, hz2⟩ : ∃ z2, z2 = z1 ^^^ by8 := ⟨_, rfl⟩
            rw [← hz2] at hbk hx2
            generalize Y[Kn] = z0 at *
            have HNH2 := Lib.hid hnh; have HBACK := Lib.hid hbk
            have hbl : (by8.toNat : Int) ≤ 255 := by have := by8.toNat_lt; omega
            clear hnh hback hbk hz1 hz2
            have h12 := hset11 z1
            rw [show bv z1 = .int .u8 (z1.toNat : Nat) from rfl] at h12
            have H12 := Lib.hid h12
            clear h12 hset11
            rw [← HYL.out]
            go_wp2_with fail
            have h12 := H12.out
            generalize w11.setCell ⟨g11, Kn, none⟩ (.int .u8 (z1.toNat : Nat)) = w12 at h12 ⊢
            have H13 := Lib.hid (show St w.heap.size w w12 [OwB (.slice (some ⟨g11, 0, none⟩) Y.length c11) (Y.set Kn z1), ArT q { base := 32, cap := 16384, b := Y }, BlsO (Value.slice a1 L.length c1) L] by
              unfold OwB; rw [List.length_set]; exact h12)
            clear h12 H12 cK
            have hYs : (Y.set Kn z1).length = Y.length := List.length_set ..
            have HYS := Lib.hid hYs
            clear hYs
            have kc := ar_Arena H13.out 32 32 rfl 16384 16384 rfl (by decide) (by decide) (by decide) (by decide) (some ⟨g11, 0, none⟩) _ c11 (Y.set Kn z1) (H13.out.bsV (i := 0) rfl) (by rw [HYS.out, HYL.out]; omega)
            with_reducible refine kc.mono ?_
            clear kc
            rintro e w14 ⟨q14, rfl, t14⟩
            have T14 := Lib.hid t14
            clear t14
            have T15 := Lib.hid (show St w.heap.size w w14 (([ArT q14 ⟨32, 16384, Y.set Kn z1⟩, OwB (.slice (some ⟨g11, 0, none⟩) Y.length c11) (Y.set Kn z1), ArT q { base := 32, cap := 16384, b := Y }, BlsO (Value.slice a1 L.length c1) L] : List Ob).set 0 (ArT q14 ⟨32, 16384, Y.set Kn z1⟩)) from T14.out)
            go_wp2_with fail
            have kc := chk_Check T15.out (Nat.zero_lt_succ _)
            with_reducible refine kc.mono ?_
            clear kc
            rintro e w16 ⟨r16', rfl, b16', t16⟩
            have T16 := Lib.hid t16
            clear t16
            obtain rfl := chkV_false b16' HNH2.out
            rw [show chkV false = .iface 183 (.int .i64 3) from rfl]
            have T17 := Lib.hid (show St w.heap.size w w16 [ArT q14 ⟨32, 16384, Y.set Kn z1⟩, OwB (.slice (some ⟨g11, 0, none⟩) Y.length c11) (Y.set Kn z1), ArT q { base := 32, cap := 16384, b := Y }, BlsO (Value.slice a1 L.length c1) L] from T16.out)
            have B17 := Lib.hid T17.out.end
            clear T16 T15 T14 TB T11
            by_cases hL0 : L.length = 0
            · have d9 : ((L.length : Int) == 0) = true := by rw [beq_iff_eq]; omega
              go_wp2
              go_ret
              exact ⟨rfl, B17.out⟩
            have d9 : ((L.length : Int) == 0) = false := by rw [beq_eq_false_iff_ne]; omega
            have hKl2 : Kn < (Y.set Kn z1).length := by rw [HYS.out]; exact hKl
            have TC := Lib.hid (show St w.heap.size w w16 [ArT q14 ⟨32, 16384, Y.set Kn z1⟩, OwB (.slice (some ⟨g11, 0, none⟩) (Y.set Kn z1).length c11) (Y.set Kn z1), ArT q { base := 32, cap := 16384, b := Y }, BlsO (Value.slice a1 L.length c1) L] by rw [HYS.out]; exact T17.out)
            obtain ⟨g18, cap18, e18, _, hf18, hset18⟩ := TC.out.setByte (i := 1) rfl Kn hKl2
            cases e18
            have cK : w16.cell? ⟨g11, Kn, none⟩ = some (.int .u8 (z1.toNat : Nat)) := by
              have := (TC.out.own (i := 1) rfl).cellAt Kn (by omega)
              rw [this]; simp [hKl, bv]
            have h19 := hset18 z2
            rw [show bv z2 = .int .u8 (z2.toNat : Nat) from rfl, HBACK.out] at h19
            have H19 := Lib.hid h19
            clear h19 hset18 TC
            obtain ⟨M, hM⟩ : ∃ M : Nat, M = L.length := ⟨_, rfl⟩
            have v0 := Int.emod_nonneg at_ (show (L.length : Int) ≠ 0 by omega)
            have v1 := Int.emod_lt_of_pos at_ (show (0 : Int) < L.length by omega)
            obtain ⟨m, hm⟩ := Int.eq_ofNat_of_zero_le v0
            have kp := fun w' => law_Pick w' at_ (L.length : Int) at0 at1 (by omega) (by omega)
            rw [hm] at kp v1
            have KP := Lib.hid kp
            have hml : m < L.length := by omega
            clear kp hm v0 v1
            go_wp2_with fail
            have h19 := H19.out
            generalize w16.setCell ⟨g11, Kn, none⟩ (.int .u8 (z2.toNat : Nat)) = w20 at h19 ⊢
            have H20 := Lib.hid (show St w.heap.size w w20 [ArT q14 ⟨32, 16384, Y.set Kn z1⟩, OwB (.slice (some ⟨g11, 0, none⟩) Y.length c11) Y, ArT q { base := 32, cap := 16384, b := Y }, BlsO (Value.slice a1 L.length c1) L] by
              rw [HYS.out] at h19; exact h19)
            clear h19 H19 cK T17 H13
            have kc := KP.out w20
            with_reducible refine kc.mono ?_
            clear kc
            rintro e w' ⟨rfl, rfl⟩
            obtain ⟨bb, bo, rfl, hr⟩ := bl_at (bls_sl H20.out (i := 3) rfl).2 m hml
            have hxm := List.getElem_mem hml
            have hxo := HOF.out L[m] hxm
            have hnt := HNT.out L[m] hxm hxo by8 hby
            have hx3 := u8_xor_bv (Y[(L[m]).off]) by8
            generalize L[m] = x at *
            obtain ⟨z3, hz3⟩ : ∃ z3, z3 = Y[x.off] := ⟨_, rfl⟩
            obtain ⟨z4, hz4⟩ : ∃ z4, z4 = Y[x.off] ^^^ by8 := ⟨_, rfl⟩
            rw [← hz4] at hnt hx3
            rw [← hz3] at hx3
            have hcx : ∀ w' (l' : List Ob) (i : Nat), St w.heap.size w w' l' → l'[i]? = some (OwB (.slice (some ⟨g11, 0, none⟩) Y.length c11) Y) → w'.cell? ⟨g11, x.off, none⟩ = some (.int .u8 (z3.toNat : Nat)) := fun w' l' i h' hi' => by
              have := (h'.own hi').cellAt x.off (by omega)
              rw [this]; simp [hxo, bv]; rw [hz3]
            have HCX := Lib.hid hcx; have HNT2 := Lib.hid hnt; have HR := Lib.hid hr
            clear hcx hnt hr hz3 hz4 hxm
            have hx3' := hx3
            go_wp2_with (first | (refine bl_mid rfl _ rfl bb (bo + m * 3) rfl x HR.out ?_) | (refine bk_alloc H20.out rfl rfl ?_; intro g4 w4 h4; have T4 := Lib.hid h4; clear h4) | (refine bk_store T4.out 0 rfl rfl _ _ rfl rfl x.off x.size x.used rfl ?_; intro w5 h5; have T5 := Lib.hid (show St w.heap.size w w5 [BkO g4 x.off x.size x.used, ArT q14 ⟨32, 16384, Y.set Kn z1⟩, OwB (.slice (some ⟨g11, 0, none⟩) Y.length c11) Y, ArT q { base := 32, cap := 16384, b := Y }, BlsO (Value.slice (some ⟨bb, bo, none⟩) L.length c1) L] from h5); clear h5 T4; go_wp2_with fail))
            have c7 := HCX.out _ _ 2 T5.out.drew rfl
            refine flows_begin (S := fun w' => ∃ Z, St w.heap.size w w' [BkO g4 x.off x.size x.used, ArT q14 ⟨32, 16384, Y.set Kn z1⟩, OwB (.slice (some ⟨g11, 0, none⟩) Y.length c11) Z, ArT q { base := 32, cap := 16384, b := Y }, BlsO (Value.slice (some ⟨bb, bo, none⟩) L.length c1) L]) hmixed 12 rfl (by repeat (first | with_reducible refine ps_then ?_ | with_reducible refine ps_block ?_ | with_reducible exact ps_body | refine ps_then ?_ | refine ps_block ?_ | exact ps_body)) ⟨Y, T5.out.drew⟩ (fun hps => ?_)
            simp only [List.replicate]
            refine flows_take 0 (v := ?_) (a' := ?_) hps rfl (by kernel_rfl) rfl ?_ ?_ ?_
            rotate_left 2
            · intro w' hk; go_simp; try rfl
            · simp only [Act.put, List.setIfInBounds_toArray, List.set_cons_succ, List.set_cons_zero]; try rfl
            refine flows_take 1 (v := ?_) (a' := ?_) hps rfl (by kernel_rfl) rfl ?_ ?_ ?_
            rotate_left 2
            · intro w' hk; go_simp; try rfl
            · simp only [Act.put, List.setIfInBounds_toArray, List.set_cons_succ, List.set_cons_zero]; try rfl
            refine flows_take 2 (v := ?_) (a' := ?_) hps rfl (by kernel_rfl) rfl ?_ ?_ ?_
            rotate_left 2
            · intro w' hk; obtain ⟨_, hk⟩ := hk; have c0 := (hk.row (i := 0) rfl).cell 0; simp only [List.getElem?_cons_succ, List.getElem?_cons_zero] at c0; go_simp; try rfl
            · simp only [Act.put, List.setIfInBounds_toArray, List.set_cons_succ, List.set_cons_zero]; try rfl
            refine flows_take 3 (v := ?_) (a' := ?_) hps rfl (by kernel_rfl) rfl ?_ ?_ ?_
            rotate_left 2
            · intro w' hk; go_simp; try rfl
            · simp only [Act.put, List.setIfInBounds_toArray, List.set_cons_succ, List.set_cons_zero]; try rfl
            refine flows_take 4 (v := ?_) (a' := ?_) hps rfl (by kernel_rfl) rfl ?_ ?_ ?_
            rotate_left 2
            · intro w' hk; go_simp; try rfl
            · simp only [Act.put, List.setIfInBounds_toArray, List.set_cons_succ, List.set_cons_zero]; try rfl
            refine flows_take 5 (v := ?_) (a' := ?_) hps rfl (by kernel_rfl) rfl ?_ ?_ ?_
            rotate_left 2
            · intro w' hk; obtain ⟨_, hk⟩ := hk; have c0 := (hk.row (i := 0) rfl).cell 0; simp only [List.getElem?_cons_succ, List.getElem?_cons_zero] at c0; go_simp; try rfl
            · simp only [Act.put, List.setIfInBounds_toArray, List.set_cons_succ, List.set_cons_zero]; try rfl
            refine flows_take 6 (v := ?_) (a' := ?_) hps rfl (by kernel_rfl) rfl ?_ ?_ ?_
            rotate_left 2
            · intro w' hk; go_simp; try rfl
            · simp only [Act.put, List.setIfInBounds_toArray, List.set_cons_succ, List.set_cons_zero]; try rfl
            refine flows_take 8 (v := ?_) (a' := ?_) hps rfl (by kernel_rfl) rfl ?_ ?_ ?_
            rotate_left 2
            · intro w' hk; go_simp; try rfl
            · simp only [Act.put, List.setIfInBounds_toArray, List.set_cons_succ, List.set_cons_zero]; try rfl
            refine flows_one 7 hps rfl (by kernel_rfl) rfl (wp_next (fun K hK => ?_))
            go_simp
            have kp : ∃ Z, St w.heap.size w w5.drew [BkO g4 x.off x.size x.used, ArT q14 ⟨32, 16384, Y.set Kn z1⟩, OwB (.slice (some ⟨g11, 0, none⟩) Y.length c11) Z, ArT q { base := 32, cap := 16384, b := Y }, BlsO (Value.slice (some ⟨bb, bo, none⟩) L.length c1) L] := ⟨Y, T5.out.drew⟩
            refine hK _ _ ⟨kp, ?_⟩
            clear kp hK
            refine flows_take 9 (v := ?_) (a' := ?_) hps rfl (by kernel_rfl) rfl ?_ ?_ ?_
            rotate_left 2
            · intro w' hk; go_simp; try rfl
            · simp only [Act.put, List.setIfInBounds_toArray, List.set_cons_succ, List.set_cons_zero]; try rfl
            refine flows_take 10 (v := ?_) (a' := ?_) hps rfl (by kernel_rfl) rfl ?_ ?_ ?_
            rotate_left 2
            · intro w' hk; go_simp; try rfl
            · simp only [Act.put, List.setIfInBounds_toArray, List.set_cons_succ, List.set_cons_zero]; try rfl
            refine flows_one 11 hps rfl (by kernel_rfl) rfl (wp_next (fun K hK => ?_))
            refine own_store_at T5.out.drew 2 rfl x.off (by rw [List.length_map]; exact hxo) _ _ _ rfl rfl (bv z4) rfl rfl (by kernel_rfl) ?_
            intro w21 h21
            rw [← List.map_set] at h21
            have h21 : St w.heap.size w w21 [BkO g4 x.off x.size x.used, ArT q14 ⟨32, 16384, Y.set Kn z1⟩, OwB (.slice (some ⟨g11, 0, none⟩) Y.length c11) (Y.set x.off z4), ArT q { base := 32, cap := 16384, b := Y }, BlsO (Value.slice (some ⟨bb, bo, none⟩) L.length c1) L] := (by unfold OwB; rw [List.length_set]; exact h21)
            have kp : ∃ Z, St w.heap.size w w21 [BkO g4 x.off x.size x.used, ArT q14 ⟨32, 16384, Y.set Kn z1⟩, OwB (.slice (some ⟨g11, 0, none⟩) Y.length c11) Z, ArT q { base := 32, cap := 16384, b := Y }, BlsO (Value.slice (some ⟨bb, bo, none⟩) L.length c1) L] := ⟨_, h21⟩
            have H21 := Lib.hid h21
            clear h21
            refine hK _ _ ⟨kp, ?_⟩
            clear kp hK
            refine flows_done hps (by kernel_rfl) ?_
            have hYx : (Y.set x.off z4).length = Y.length := List.length_set ..
            have HYX := Lib.hid hYx
            clear hYx c7
            go_wp2_with fail
            have kc := ar_Arena H21.out 32 32 rfl 16384 16384 rfl (by decide) (by decide) (by decide) (by decide) (some ⟨g11, 0, none⟩) _ c11 (Y.set x.off z4) (H21.out.bsV (i := 2) rfl) (by rw [HYX.out, HYL.out]; omega)
            with_reducible refine kc.mono ?_
            clear kc
            rintro e w22 ⟨q22, rfl, t22⟩
            have T22 := Lib.hid t22
            clear t22
            have T23 := Lib.hid (show St w.heap.size w w22 (([ArT q22 ⟨32, 16384, Y.set x.off z4⟩, BkO g4 x.off x.size x.used, ArT q14 ⟨32, 16384, Y.set Kn z1⟩, OwB (.slice (some ⟨g11, 0, none⟩) Y.length c11) (Y.set x.off z4), ArT q { base := 32, cap := 16384, b := Y }, BlsO (Value.slice (some ⟨bb, bo, none⟩) L.length c1) L] : List Ob).set 0 (ArT q22 ⟨32, 16384, Y.set x.off z4⟩)) from T22.out)
            go_wp2_with fail
            have kc := chk_Check T23.out (Nat.zero_lt_succ _)
            with_reducible refine kc.mono ?_
            clear kc
            rintro e w24 ⟨r24', rfl, b24', t24⟩
            have T24 := Lib.hid t24
            clear t24
            obtain rfl := chkV_false b24' HNT2.out
            rw [show chkV false = .iface 183 (.int .i64 3) from rfl]
            have B24 := Lib.hid T24.out.end
            clear T24 T23 T22
            go_wp2
            go_ret
            exact ⟨rfl, B24.out⟩
end Go.Proofs.Ytjijniillehfoaa

/- What comes in, opened: a slice of bytes as a list; whatever else as a value that reads. -/
namespace Go.Own
open Go Go.RowKit Go.ChangeShapes Go.WideShapes
theorem open_bytes {H : Type} {enc : TypeId × Value → H} {P : Program} {W : World} {t e : TypeId} {a : Option Addr} {len cap : Nat} {d : DataW H} {p : List MemPlace}
    (ht : P.underlying t = some (.slice e)) (he : P.underlying e = some (.int .u8)) (hc : P.cellsOf e = 1)
    (h : DataW.Trod enc P W 0 (fun _ => true) true t (.slice a len cap) d p) : ∃ l, Bs W a len cap l := by
  obtain ⟨fuel, hf⟩ := h
  rcases open_ints ht he hc hf with ⟨hcs, _⟩ | ⟨x, l, c, zs, hcs, _, hl, hm, hz, _, hcell, hwz⟩
  · simp [Value.cells] at hcs
    obtain ⟨rfl, rfl, rfl⟩ := hcs
    exact ⟨[], Bs.nil W⟩
  · simp [Value.cells] at hcs
    obtain ⟨rfl, rfl, rfl⟩ := hcs
    refine ⟨(zs.take len).map fun z => UInt8.ofNat z.toNat, ?_, hl, by unfold maxLen at hm; omega, fun h => (by cases h), ?_⟩
    · have : zs.length = cap := by simpa using hz
      simp; omega
    · intro i v hv
      have hz' : zs.length = cap := by simpa using hz
      simp only [List.getElem?_map, List.getElem?_take] at hv
      split at hv
      · rename_i hi
        have hlt : i < zs.length := by omega
        rw [List.getElem?_eq_getElem hlt] at hv
        simp only [Option.map_some, Option.some.injEq] at hv
        have hw := hwz zs[i] (List.getElem_mem hlt)
        have hcl := hcell i hlt
        simp [Lit.wf, IntKind.min, IntKind.max, IntKind.bits, IntKind.signed] at hw
        have h0 := hcell 0 (by omega)
        obtain ⟨b, o, sp⟩ := x
        have hsp : sp = none := by
          cases sp with
          | none => rfl
          | some s => exfalso; revert h0; simp [World.cell?, Addr.add]; split <;> simp
        subst hsp
        refine ⟨b, o, rfl, ?_⟩
        have hadd : (⟨b, o, none⟩ : Addr).add i = ⟨b, o + i, none⟩ := by unfold Addr.add; split <;> simp_all
        rw [hadd] at hcl
        rw [hcl, ← hv, bv]
        simp [List.getD, hlt]
        omega
      · cases hv
end Go.Own
