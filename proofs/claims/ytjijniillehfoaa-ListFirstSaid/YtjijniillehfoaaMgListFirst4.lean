/- Texts of the proof of 'ListFirst', part 4: words on memory, contracts of functions, plain laws. No condition. -/
import Derived.Test.YtjijniillehfoaaMgListFirst3
import Derived.ProofKit
import Derived.OpenShut
/- Layer 9: free blocks put and taken in any order. -/
namespace Go.Own
open Go Go.RowKit
def ints (l : List Nat) : List Value := l.map fun o => .int .i64 (o : Nat)
def rowsOf (ls : Nat → List Nat) : List (List Value) := (List.range 22).map fun d => ints (ls d)
theorem rowsOf_length (ls : Nat → List Nat) : (rowsOf ls).length = 22 := by unfold rowsOf; simp
theorem rowsOf_at (ls : Nat → List Nat) {d : Nat} (hd : d < 22) : (rowsOf ls)[d]? = some (ints (ls d)) := by unfold rowsOf; simp [hd]
theorem rowsOf_set (ls : Nat → List Nat) {c : Nat} (hc : c < 22) (new : List Nat) : (rowsOf ls).set c (ints new) = rowsOf fun d => if d = c then new else ls d := by
  apply List.ext_getElem?
  intro j
  by_cases hj : j < 22
  · by_cases hjc : j = c
    · subst hjc
      rw [List.getElem?_set_self (by rw [rowsOf_length]; exact hj), rowsOf_at _ hj, if_pos rfl]
    · rw [List.getElem?_set_ne (fun e => hjc e.symm), rowsOf_at _ hj, rowsOf_at _ hj, if_neg hjc]
  · rw [List.getElem?_eq_none (by rw [List.length_set, rowsOf_length]; omega), List.getElem?_eq_none (by rw [rowsOf_length]; omega)]
end Go.Own
namespace Go.Proofs.Ytjijniillehfoaa
open Go Go.RowKit Go.Own
set_option linter.unusedVariables false
set_option maxRecDepth 100000
theorem info_ints : Info Try.prog 74 (.slice none 0 0) 1 24 := by unfold Info; kernel_rfl
theorem info_bo : Info Try.prog 4 (.bool false) 1 1 := by unfold Info; kernel_rfl
abbrev BoO (v : Value) (fl : List Bool) : Ob := OwO 4 1 v fl.length (fl.map (.bool ·))
section
variable {B : Nat} {w0 w : World} {l : List Ob}
theorem at1 {a b : Ob} {l : List Ob} : (a :: b :: l)[1]? = some b := rfl
theorem at2 {a b c : Ob} {l : List Ob} : (a :: b :: c :: l)[2]? = some c := rfl
theorem at3 {a b c d : Ob} {l : List Ob} : (a :: b :: c :: d :: l)[3]? = some d := rfl
theorem at4 {a b c d e : Ob} {l : List Ob} : (a :: b :: c :: d :: e :: l)[4]? = some e := rfl
theorem inL_rows (ls : Nat → List Nat) {c : Nat} (hc : c < 22) (o : Nat) : rowsOf (inL ls c o) = (rowsOf ls).set c (ints ([o] ++ ls c)) := by rw [rowsOf_set ls hc]; rfl
theorem outL_rows (ls : Nat → List Nat) {c : Nat} (hc : c < 22) (o : Nat) : rowsOf (outL ls c o) = (rowsOf ls).set c (ints ((ls c).filter (· ≠ o))) := by rw [rowsOf_set ls hc]; rfl
theorem bo_set {B : Nat} {w0 w : World} {l : List Ob} {v : Value} {fl : List Bool} {K : Nat} {u : Bool} (h : St B w0 w (OwO 4 1 v fl.length ((fl.map (Value.bool ·)).set K (.bool u)) :: l)) : St B w0 w (BoO v (fl.set K u) :: l) := by
  unfold BoO; rw [List.length_set, List.map_set]; exact h
theorem rng_of {w' : World} {bb bo j : Nat} {cs : List Value} (h : ∃ b o, (some ⟨bb, bo, none⟩ : Option Addr) = some ⟨b, o, none⟩ ∧ w'.rangeAt b (o + j * 3) cs) : w'.rangeAt bb (bo + j * 3) cs := by
  obtain ⟨b, o, e, hr⟩ := h
  cases e; exact hr
/-- 'make([][]int, n)'. -/
theorem mx_mk (h : St B w0 w l) (m : Int) (n : Nat) (hm : m = n) (hn : n ≤ 1000000) :
    ∃ g W, (Instr.makeSlice 118 (.int .i64 m) (.int .i64 m)).run Try.prog w = .ok (.slice (some ⟨g, 0, none⟩) n n) W ∧ St B w0 W (MxO 74 (.slice (some ⟨g, 0, none⟩) n n) (List.replicate n ⟨none, 0, 0⟩) (List.replicate n []) :: l) := by
  refine ⟨_, _, run_mk1 118 74 _ 24 Try.underlying118 info_ints rfl m n hm (by omega) (by omega) w, ?_⟩
  refine h.add (F := fun x => x = w.heap.size) ((Below.refl _ _).alloc (Nat.le_refl _) _) ⟨⟨?_, fun g hg => ?_, by simp, fun j s r hs hr => ?_⟩, fun x hx => by rw [hx]; simp⟩ fun x hx => by rw [hx]; exact Nat.le_refl _
  · rw [List.length_replicate, List.map_replicate]
    exact ⟨by simp, .inr ⟨w.heap.size, n, (List.replicate n (Value.slice none 0 0)).toArray, rfl, Nat.zero_le _, by show (w.heap.push _)[w.heap.size]? = _; exact Array.getElem?_push_size, Nat.le_refl _, Nat.le_trans hn (by decide), by simp, by simp [Sv.v]⟩⟩
  · simp only [Value.ownBlock, Option.some.injEq] at hg; exact hg.symm
  · have h1 := (List.getElem?_eq_some_iff.1 hs).2; have h2 := (List.getElem?_eq_some_iff.1 hr).2
    rw [List.getElem_replicate] at h1 h2
    subst h1; subst h2
    exact ⟨Sl.nil _ _, fun q hq => by cases hq⟩
/-- 'make([]bool, n)'. -/
theorem bo_mk (h : St B w0 w l) (m : Int) (n : Nat) (hm : m = n) (hn : n ≤ 1000000) :
    ∃ g W, (Instr.makeSlice 23 (.int .i64 m) (.int .i64 m)).run Try.prog w = .ok (.slice (some ⟨g, 0, none⟩) n n) W ∧ St B w0 W (BoO (.slice (some ⟨g, 0, none⟩) n n) (List.replicate n false) :: l) := by
  refine ⟨_, _, run_mk1 23 4 _ 1 Try.underlying23 info_bo rfl m n hm (by omega) (by omega) w, ?_⟩
  refine h.addOwn ((Below.refl _ _).alloc (Nat.le_refl _) _) ?_
  rw [List.length_replicate, List.map_replicate]
  exact ⟨by simp, .inr ⟨w.heap.size, n, (List.replicate n (Value.bool false)).toArray, rfl, Nat.le_refl _, by show (w.heap.push _)[w.heap.size]? = _; exact Array.getElem?_push_size, Nat.le_refl _, Nat.le_trans hn (by decide), by simp, by simp⟩⟩
theorem lit_one (h : St B w0 w l) (x : Int) (y : Nat) (hx : x = y) : St B w0 (w.alloc (.cells #[.int .i64 x] 3 (0, 0))) (IntsO (.slice (some ⟨w.heap.size, 0, none⟩) 1 1) [y] :: l) := by
  subst hx
  refine h.addOwn ((Below.refl _ _).alloc (Nat.le_refl _) _) ?_
  exact ⟨rfl, .inr ⟨w.heap.size, 1, #[.int .i64 (y : Nat)], rfl, Nat.le_refl _, by show (w.heap.push _)[w.heap.size]? = _; simp, Nat.le_refl _, by decide, rfl, rfl⟩⟩
/-- 'append(s, l...)', numbers. -/
theorem ints_app_at {o : Oper} {a : Act} {K : Act → World → Prop} {Q : Exit → Act → World → Prop} (h : St B w0 w l) (i : Nat) {v : Value} {L : List Nat} (hi : l[i]? = some (IntsO v L)) (s x : Operand)
    (ho : o.op = .call { callee := .builtin .append, args := #[s, x], argTypes := #[74, 74] }) (hs : a.eval s = v) (ad : Option Addr) (m c : Nat) (L2 : List Nat) (hx : a.eval x = .slice ad m c) (hb : Sl w ad m c 1 (ints L2))
    (hL : L.length + m ≤ 1000000) (hk : ∀ v' w', St B w0 w' (l.set i (IntsO v' (L ++ L2))) → K (a.put o.dst v') w') : o.wp Try.prog a w K Q := by
  have hm : m = L2.length := by have := hb.len; simp [ints] at this; omega
  refine app_at s x 74 ho 0 3 (.int .i64 0) 1 8 Try.underlying74 info_int rfl (by decide) v L.length (L.map fun o => .int .i64 (o : Nat)) hs (h.own hi) ad m c (ints L2) hx hb (ints_one _) (by omega) (by omega) (Nat.zero_le _) fun v' w' h1 h2 h3 => hk v' w' ?_
  have := h.ownTo hi w' v' _ _ h1 h2 h3
  unfold IntsO
  rw [List.length_append, List.map_append, ← hm]; exact this
end
set_option maxHeartbeats 16000000 in
theorem listFirst (w : World) (sa : Option Addr) (sn sc : Nat) (oa : Option Addr) (on oc : Nat) (ta : Option Addr) (tn tc : Nat) (hz : Rd w (.sl (.int .i64)) [.slice sa sn sc]) (ho : Rd w (.sl (.int .i64)) [.slice oa on oc]) (ht : Rd w (.sl (.int .i64)) [.slice ta tn tc]) :
    Calls Try.prog 14 #[.slice sa sn sc, .slice oa on oc, .slice ta tn tc] w (lawOk w) := by
  obtain ⟨zs, hzs⟩ := hz.ints
  obtain ⟨os, hos⟩ := ho.ints
  obtain ⟨ts, hts⟩ := ht.ints
  have hn := hzs.len; have hm := hos.len; have hp := hts.len
  subst hn; subst hm; subst hp
  have p1 := Sl.cap hzs.1; have r1 := Sl.room hzs.1; have p2 := Sl.cap hos.1; have r2 := Sl.room hos.1; have p3 := Sl.cap hts.1; have r3 := Sl.room hts.1
  have HZ := Lib.hid hzs; have HO := Lib.hid hos; have HT := Lib.hid hts
  clear hz ho ht hzs hos hts
  go_enter Try.func14, Try.ntmps14
  go_wp2_with fail
  refine (up09 w).mono ?_
  rintro e w1 ⟨rfl, bw1⟩
  have T1 := Lib.hid ((St.start w).below bw1)
  clear bw1
  by_cases hl : zs.length > 20
  · have B2 := Lib.hid T1.out.end
    go_wp2
    go_ret
    exact ⟨rfl, B2.out⟩
  by_cases hlo : os.length > 40
  · have B2 := Lib.hid T1.out.end
    go_wp2
    go_ret
    exact ⟨rfl, B2.out⟩
  by_cases hlt3 : ts.length > 40
  · have B2 := Lib.hid T1.out.end
    go_wp2
    go_ret
    exact ⟨rfl, B2.out⟩
  have hl6 : zs.length ≤ 20 := by omega
  have ho6 : os.length ≤ 40 := by omega
  have ht6 : ts.length ≤ 40 := by omega
  have T2 := Lib.hid (show St w.heap.size w w1 (BlsO (.slice none 0 0) [] :: []) from T1.out.addOwn (Below.refl _ _) (World.ownsRow_nil _ _ _ _))
  clear T1
  go_wp2
  clear hl hlo hlt3
  go_loopw [8, 9, 10] (fun vl vo vi wr => ∃ (k : Nat) (L : List Blk), k ≤ zs.length ∧ vi = .int .i64 k ∧ vo = .int .i64 (endOf 184 (pairs L) : Nat) ∧ L.length = k ∧ Chain 184 (pairs L) ∧ endOf 184 (pairs L) ≤ 184 + 368 * k ∧ (∀ x ∈ L, x.used = false) ∧ St w.heap.size w wr (BlsO vl L :: [])) (fun _ _ vi _ => zs.length - (intOf vi).toNat)
  case atStart => exact ⟨0, [], Nat.zero_le _, rfl, rfl, rfl, trivial, Nat.le_refl _, (fun x hx => by cases hx), T2.out⟩
  case round =>
    clear T2
    obtain ⟨k, L, hk, rfl, rfl, hL, hch, hend, hfr, hS⟩ := hrel
    have HCH := Lib.hid hch; have HFR := Lib.hid hfr
    clear hch hfr
    by_cases hlt : k < zs.length
    · obtain ⟨zb, zo, rfl, hcz⟩ := HZ.out.at k hlt
      have hzw := wfI64 (HZ.out.2 zs[k] (List.getElem_mem hlt))
      have c1 := hS.argCell hcz
      generalize zs[k] = z at *
      have hL2 : L.length ≤ 1000000 := by omega
      have HS := Lib.hid hS; have HL := Lib.hid hL
      obtain ⟨E, hE⟩ : ∃ E, E = endOf 184 (pairs L) := ⟨_, rfl⟩
      have HE := Lib.hid hE
      rw [← hE] at hend ⊢
      clear hS hcz hE
      go_wp2_with fail
      have kc := law_Pick wr z 20 hzw.1 hzw.2 (by decide) (by decide)
      have q0 := Int.emod_nonneg z (show (20 : Int) ≠ 0 by decide)
      have q1 := Int.emod_lt_of_pos z (show (0 : Int) < 20 by decide)
      obtain ⟨q, hq⟩ := Int.eq_ofNat_of_zero_le q0
      rw [hq] at kc q1
      with_reducible refine kc.mono ?_
      clear kc hq q0 hzw c1
      rintro e w' ⟨rfl, rfl⟩
      obtain ⟨N, hN⟩ : ∃ N : Nat, N = 32 + 16 * q := ⟨_, rfl⟩
      have m1 : IntKind.i64.wrap (16 * (q : Int)) = 16 * (q : Int) := IntWalk.i64_in _ (by omega)
      have m2 : IntKind.i64.wrap (32 + 16 * (q : Int)) = (N : Int) := by rw [IntWalk.i64_in _ (by omega)]; omega
      have m3 : IntKind.i64.wrap ((E : Int) + (N : Int)) = (E : Int) + (N : Int) := IntWalk.i64_in _ (by omega)
      have m4 : IntKind.i64.wrap ((E : Int) + (N : Int) + 32) = ((E + N + 32 : Nat) : Int) := by rw [IntWalk.i64_in _ (by omega)]; omega
      have hNs : isSize (N : Int) = true := isSize_yes (by omega)
      have hN2 : N ≤ 336 := by omega
      have HNS := Lib.hid hNs
      clear hN hNs
      go_wp2_with (at_builtin; go_must (refine bls_app HS.out 0 rfl rfl (.tmp 45) (.tmp 55) rfl rfl (E : Int) (N : Int) false ⟨E, N, false⟩ rfl rfl rfl rfl hL2 ?_; intro v6 w6 h6; have H6 := Lib.hid h6; obtain ⟨a6, c6, e6, hs6⟩ := bls_slice h6 (i := 0) rfl; subst e6; obtain ⟨bb, bo, e7, hr7⟩ := bl_at hs6 k (by rw [List.length_append, HL.out]; exact Nat.lt_succ_self _); subst e7; have hxx : (L ++ [(⟨E, N, false⟩ : Blk)])[k]'(by rw [List.length_append, HL.out]; exact Nat.lt_succ_self _) = ⟨E, N, false⟩ := (by subst hL; simp); rw [hxx] at hr7; have k1 := (bl_cells hr7).2.1; have hln : (L ++ [(⟨E, N, false⟩ : Blk)]).length = k + 1 := (by rw [List.length_append, HL.out]; rfl); clear h6 hs6 hr7 hxx))
      have h6' : St w.heap.size w w6 [BlsO (.slice (some ⟨bb, bo, none⟩) (L ++ [(⟨E, N, false⟩ : Blk)]).length c6) (L ++ [⟨E, N, false⟩])] := H6.out
      rw [hln] at h6'
      refine ⟨⟨k + 1, L ++ [⟨E, N, false⟩], hlt, by go_num, ?_, hln, ?_, ?_, ?_, h6'⟩, by simp [intOf]; omega⟩
      · rw [pairs_snoc, endOf_append, ← HE.out]
        show _ = Value.int .i64 ((E + N + 32 : Nat) : Int)
        go_num
      · rw [pairs_snoc]
        exact Chain.append.2 ⟨HCH.out, by rw [← HE.out]; exact ⟨rfl, HNS.out, rfl, (show isSize ((32 : Nat) : Int) = true by decide), trivial⟩⟩
      · rw [pairs_snoc, endOf_append, ← HE.out]
        show E + N + 32 ≤ _
        omega
      · intro x hx
        rcases List.mem_append.1 hx with hx | hx
        · exact HFR.out x hx
        · rw [List.mem_singleton.1 hx]
    · obtain rfl : k = zs.length := by omega
      obtain ⟨E, hE⟩ : ∃ E, E = endOf 184 (pairs L) := ⟨_, rfl⟩
      have HE := Lib.hid hE
      rw [← hE] at hend ⊢
      have hE1 : 184 ≤ E := by rw [hE]; exact endOf_ge _ 184
      have hE2 : E ≤ 7544 := by omega
      obtain ⟨a1, c1, rfl, _⟩ := bls_slice hS (i := 0) rfl
      have HL := Lib.hid hL; have HS := Lib.hid hS
      have hL6 : L.length ≤ 20 := by omega
      clear hE hlt hk hl6 hend hL hS p1 r1
      obtain ⟨g, W, hmk, t1⟩ := mk_st HS.out (E : Int) E rfl (by omega)
      have hz : (List.replicate E (0 : UInt8)).length = E := List.length_replicate ..
      have hz0 := zero_num hE1 (clearB_zero E hE1)
      generalize List.replicate E (0 : UInt8) = y at *
      have T1 := Lib.hid t1; have HY := Lib.hid hz; have HZ0 := Lib.hid hz0
      clear t1 HS hz hz0
      go_wp2_with fail
      have kc := ar_Arena T1.out 32 32 rfl 16384 16384 rfl (by decide) (by decide) (by decide) (by decide) _ _ _ y (T1.out.bsV (i := 0) rfl) (by have := HY.out; omega)
      with_reducible refine kc.mono ?_
      clear kc
      rintro e w3 ⟨q, rfl, t3⟩
      have T3 := Lib.hid t3
      clear t3
      have T4 := Lib.hid (show St w.heap.size w w3 (ArT q ⟨32, 16384, y⟩ :: BlsO (.slice a1 L.length c1) L :: []) from T3.out.sub (List.Sublist.cons_cons _ (List.sublist_cons_self ..)))
      clear T3 T1 hmk
      go_wp2
      rename ∀ (a : Act) (w : World), _ → _ => hkeep
      revert hkeep
      repeat (rename ∀ (a : Act) (w : World), _ → _ => hgx; clear hgx)
      repeat (rename Exit → Act → World → Prop => hgx; clear hgx)
      intro hkeep
      go_loopw [12] (fun vi wr => ∃ (k : Nat), k ≤ L.length ∧ vi = .int .i64 k ∧ St w.heap.size w wr (ArT q ⟨32, 16384, setAll y (pairs (L.take k))⟩ :: BlsO (.slice a1 L.length c1) L :: [])) (fun vi _ => L.length - (intOf vi).toNat)
      case atStart => exact ⟨0, Nat.zero_le _, rfl, T4.out⟩
      case round =>
        clear T4
        obtain ⟨j, hj, rfl, hS⟩ := hrel
        by_cases hlt : j < L.length
        · have cellsOf : ∀ (w' : World) (l : List Ob) (i : Nat), St w.heap.size w w' l → l[i]? = some (BlsO (.slice a1 L.length c1) L) → ∃ bb bo, a1 = some ⟨bb, bo, none⟩ ∧ w'.rangeAt bb (bo + j * 3) (blC L[j]) := fun w' l i h hi => bl_at (bls_sl h hi).2 j hlt
          obtain ⟨bb, bo, rfl, _⟩ := cellsOf _ _ 1 hS rfl
          have hx := mem_pairs (List.getElem_mem hlt)
          have hfx := HFR.out L[j] (List.getElem_mem hlt)
          have hsp : pairs (L.take (j + 1)) = pairs (L.take j) ++ [L[j], ⟨L[j].off + L[j].size, 32, true⟩] := by rw [List.take_succ_eq_append_getElem hlt, pairs_snoc]
          have hpre : pairs L = pairs (L.take j) ++ pairs (L.drop j) := by unfold pairs; rw [← List.flatMap_append, List.take_append_drop]
          have hcs := (Chain.append.1 (show Chain 184 (pairs (L.take j) ++ pairs (L.drop j)) by rw [← hpre]; exact HCH.out)).1
          have hel : endOf 184 (pairs (L.take j)) ≤ y.length := by
            have h1 := endOf_ge (pairs (L.drop j)) (endOf 184 (pairs (L.take j)))
            rw [← endOf_append, ← hpre] at h1
            have h2 := HE.out; have h3 := HY.out; omega
          have hl0 : (setAll y (pairs (L.take j))).length = E := by rw [hcs.setAll_length hel]; exact HY.out
          have hend := (HCH.out.mem hx.1).2.2
          have hsz := (isSize_iff _).1 (HCH.out.mem hx.1).2.1
          have s1 := chain_setI (b := setAll y (pairs (L.take j))) HCH.out (by rw [hl0, ← HE.out]; exact Nat.le_refl _) hx.1
          have hl1 : (setB (setAll y (pairs (L.take j))) L[j]).length = E := by rw [setB_length _ _ (by omega) (by rw [hl0, HE.out]; exact hend)]; exact hl0
          have s2 := chain_setI (b := setB (setAll y (pairs (L.take j))) L[j]) HCH.out (by rw [hl1, ← HE.out]; exact Nat.le_refl _) hx.2
          have hnew : setB (setB (setAll y (pairs (L.take j))) L[j]) ⟨L[j].off + L[j].size, 32, true⟩ = setAll y (pairs (L.take (j + 1))) := by rw [hsp, setAll_append]; rfl
          rw [hnew] at s2
          have hendE : L[j].off + L[j].size ≤ E := by rw [HE.out]; exact hend
          generalize setB (setAll y (pairs (L.take j))) L[j] = y1 at *
          generalize L[j] = x at *
          have m1 : IntKind.i64.wrap ((x.off : Int) + (x.size : Int)) = (x.off : Int) + (x.size : Int) := IntWalk.i64_in _ (by omega)
          have s2 : setI y1 ((x.off : Int) + (x.size : Int)) 32 true = some (setAll y (pairs (L.take (j + 1)))) := s2
          rw [hfx] at s1
          have HS := Lib.hid hS; have CO := Lib.hid cellsOf; have S1 := Lib.hid s1; have S2 := Lib.hid s2
          have TX := Lib.hid hS.drew
          clear hS cellsOf s1 s2 hnew hl0 hl1 hcs hel hpre hsp hx hend hsz hendE
          go_wp2
          refine flows_begin (S := fun w' => w'.rangeAt bb (bo + j * 3) (blC x)) hmixed 24 rfl (by repeat (first | with_reducible refine ps_then ?_ | with_reducible refine ps_block ?_ | with_reducible exact ps_body | refine ps_then ?_ | refine ps_block ?_ | exact ps_body)) (rng_of (CO.out _ _ 1 TX.out rfl)) (fun hps => ?_)
          simp only [List.replicate]
          generalize wr.drew = wx at TX ⊢
          refine flows_take 0 (v := ?_) (a' := ?_) hps rfl (by kernel_rfl) rfl ?_ ?_ ?_
          rotate_left 2
          · intro w' hk; go_simp; try rfl
          · simp only [Act.put, List.setIfInBounds_toArray, List.set_cons_succ, List.set_cons_zero]; try rfl
          refine flows_take 1 (v := ?_) (a' := ?_) hps rfl (by kernel_rfl) rfl ?_ ?_ ?_
          rotate_left 2
          · intro w' hk; go_simp; try rfl
          · simp only [Act.put, List.setIfInBounds_toArray, List.set_cons_succ, List.set_cons_zero]; try rfl
          refine flows_take 2 (v := ?_) (a' := ?_) hps rfl (by kernel_rfl) rfl ?_ ?_ ?_
          rotate_left 2
          · intro w' hk; go_simp; try rfl
          · simp only [Act.put, List.setIfInBounds_toArray, List.set_cons_succ, List.set_cons_zero]; try rfl
          refine flows_take 3 (v := ?_) (a' := ?_) hps rfl (by kernel_rfl) rfl ?_ ?_ ?_
          rotate_left 2
          · intro w' hk; go_simp; try rfl
          · simp only [Act.put, List.setIfInBounds_toArray, List.set_cons_succ, List.set_cons_zero]; try rfl
          refine flows_take 4 (v := ?_) (a' := ?_) hps rfl (by kernel_rfl) rfl ?_ ?_ ?_
          rotate_left 2
          · intro w' hk; have k := bl_cells hk; have k0 := k.1; have k1 := k.2.1; have k2 := k.2.2; go_simp; try rfl
          · simp only [Act.put, List.setIfInBounds_toArray, List.set_cons_succ, List.set_cons_zero]; try rfl
          refine flows_one 5 hps rfl (by kernel_rfl) rfl (wp_next (fun K hK => ?_))
          go_simp
          have kc := blk_Set TX.out (i := 0) rfl x.off x.size false
          rw [show ({ base := 32, cap := 16384, b := setAll y (pairs (L.take j)) } : Ar).b = setAll y (pairs (L.take j)) from rfl, S1.out, show errS (some y1) = .nilIface from rfl] at kc
          with_reducible refine kc.mono ?_
          clear kc
          rintro e wa ⟨rfl, ta⟩
          replace TX := Lib.hid (show St w.heap.size w wa (ArT q ⟨32, 16384, y1⟩ :: BlsO (.slice (some ⟨bb, bo, none⟩) L.length c1) L :: []) from ta)
          clear ta
          have kp := rng_of (CO.out _ _ 1 TX.out rfl)
          refine hK _ _ ⟨kp, ?_⟩
          clear kp hK
          refine flows_take 6 (v := ?_) (a' := ?_) hps rfl (by kernel_rfl) rfl ?_ ?_ ?_
          rotate_left 2
          · intro w' hk; go_simp; try rfl
          · simp only [Act.put, List.setIfInBounds_toArray, List.set_cons_succ, List.set_cons_zero]; try rfl
          refine flows_take 7 (v := ?_) (a' := ?_) hps rfl (by kernel_rfl) rfl ?_ ?_ ?_
          rotate_left 2
          · intro w' hk; go_simp; try rfl
          · simp only [Act.put, List.setIfInBounds_toArray, List.set_cons_succ, List.set_cons_zero]; try rfl
          refine flows_take 8 (v := ?_) (a' := ?_) hps rfl (by kernel_rfl) rfl ?_ ?_ ?_
          rotate_left 2
          · intro w' hk; go_simp; try rfl
          · simp only [Act.put, List.setIfInBounds_toArray, List.set_cons_succ, List.set_cons_zero]; try rfl
          refine flows_take 9 (v := ?_) (a' := ?_) hps rfl (by kernel_rfl) rfl ?_ ?_ ?_
          rotate_left 2
          · intro w' hk; go_simp; try rfl
          · simp only [Act.put, List.setIfInBounds_toArray, List.set_cons_succ, List.set_cons_zero]; try rfl
          refine flows_take 10 (v := ?_) (a' := ?_) hps rfl (by kernel_rfl) rfl ?_ ?_ ?_
          rotate_left 2
          · intro w' hk; go_simp; try rfl
          · simp only [Act.put, List.setIfInBounds_toArray, List.set_cons_succ, List.set_cons_zero]; try rfl
          refine flows_take 11 (v := ?_) (a' := ?_) hps rfl (by kernel_rfl) rfl ?_ ?_ ?_
          rotate_left 2
          · intro w' hk; go_simp; try rfl
          · simp only [Act.put, List.setIfInBounds_toArray, List.set_cons_succ, List.set_cons_zero]; try rfl
          refine flows_take 12 (v := ?_) (a' := ?_) hps rfl (by kernel_rfl) rfl ?_ ?_ ?_
          rotate_left 2
          · intro w' hk; go_simp; try rfl
          · simp only [Act.put, List.setIfInBounds_toArray, List.set_cons_succ, List.set_cons_zero]; try rfl
          refine flows_take 13 (v := ?_) (a' := ?_) hps rfl (by kernel_rfl) rfl ?_ ?_ ?_
          rotate_left 2
          · intro w' hk; have k := bl_cells hk; have k0 := k.1; go_simp; try rfl
          · simp only [Act.put, List.setIfInBounds_toArray, List.set_cons_succ, List.set_cons_zero]; try rfl
          refine flows_take 14 (v := ?_) (a' := ?_) hps rfl (by kernel_rfl) rfl ?_ ?_ ?_
          rotate_left 2
          · intro w' hk; go_simp; try rfl
          · simp only [Act.put, List.setIfInBounds_toArray, List.set_cons_succ, List.set_cons_zero]; try rfl
          refine flows_take 15 (v := ?_) (a' := ?_) hps rfl (by kernel_rfl) rfl ?_ ?_ ?_
          rotate_left 2
          · intro w' hk; go_simp; try rfl
          · simp only [Act.put, List.setIfInBounds_toArray, List.set_cons_succ, List.set_cons_zero]; try rfl
          refine flows_take 16 (v := ?_) (a' := ?_) hps rfl (by kernel_rfl) rfl ?_ ?_ ?_
          rotate_left 2
          · intro w' hk; go_simp; try rfl
          · simp only [Act.put, List.setIfInBounds_toArray, List.set_cons_succ, List.set_cons_zero]; try rfl
          refine flows_take 17 (v := ?_) (a' := ?_) hps rfl (by kernel_rfl) rfl ?_ ?_ ?_
          rotate_left 2
          · intro w' hk; go_simp; try rfl
          · simp only [Act.put, List.setIfInBounds_toArray, List.set_cons_succ, List.set_cons_zero]; try rfl
          refine flows_take 18 (v := ?_) (a' := ?_) hps rfl (by kernel_rfl) rfl ?_ ?_ ?_
          rotate_left 2
          · intro w' hk; have k := bl_cells hk; have k1 := k.2.1; go_simp; try rfl
          · simp only [Act.put, List.setIfInBounds_toArray, List.set_cons_succ, List.set_cons_zero]; try rfl
          refine flows_take 19 (v := ?_) (a' := ?_) hps rfl (by kernel_rfl) rfl ?_ ?_ ?_
          rotate_left 2
          · intro w' hk; go_simp; try rfl
          · simp only [Act.put, List.setIfInBounds_toArray, List.set_cons_succ, List.set_cons_zero]; try rfl
          refine flows_take 20 (v := ?_) (a' := ?_) hps rfl (by kernel_rfl) rfl ?_ ?_ ?_
          rotate_left 2
          · intro w' hk; go_simp; try rfl
          · simp only [Act.put, List.setIfInBounds_toArray, List.set_cons_succ, List.set_cons_zero]; try rfl
          refine flows_one 21 hps rfl (by kernel_rfl) rfl (wp_next (fun K hK => ?_))
          go_simp
          have kc := blk_Set TX.out (i := 0) rfl ((x.off : Int) + (x.size : Int)) 32 true
          rw [show ({ base := 32, cap := 16384, b := y1 } : Ar).b = y1 from rfl, S2.out, show errS (some (setAll y (pairs (L.take (j + 1))))) = .nilIface from rfl] at kc
          with_reducible refine kc.mono ?_
          clear kc
          rintro e wb ⟨rfl, tb⟩
          replace TX := Lib.hid (show St w.heap.size w wb (ArT q ⟨32, 16384, setAll y (pairs (L.take (j + 1)))⟩ :: BlsO (.slice (some ⟨bb, bo, none⟩) L.length c1) L :: []) from tb)
          clear tb
          have kp := rng_of (CO.out _ _ 1 TX.out rfl)
          refine hK _ _ ⟨kp, ?_⟩
          clear kp hK
          refine flows_take 22 (v := ?_) (a' := ?_) hps rfl (by kernel_rfl) rfl ?_ ?_ ?_
          rotate_left 2
          · intro w' hk; go_simp; try rfl
          · simp only [Act.put, List.setIfInBounds_toArray, List.set_cons_succ, List.set_cons_zero]; try rfl
          refine flows_take 23 (v := ?_) (a' := ?_) hps rfl (by kernel_rfl) rfl ?_ ?_ ?_
          rotate_left 2
          · intro w' hk; go_simp; try rfl
          · simp only [Act.put, List.setIfInBounds_toArray, List.set_cons_succ, List.set_cons_zero]; try rfl
          refine flows_done hps (by kernel_rfl) ?_
          go_wp2
          exact ⟨⟨j + 1, hlt, by go_num, TX.out⟩, by simp [intOf]; omega⟩
        · obtain rfl : j = L.length := by omega
          rw [List.take_length] at hS
          have hey : endOf 184 (pairs L) = y.length := by have h2 := HE.out; have h3 := HY.out; omega
          have htile := HCH.out.tile (b := y) (Nat.le_refl _) (by decide) hey
          have hlen := HCH.out.setAll_length (b := y) (Nat.le_of_eq hey)
          have htc := HCH.out.touch (b := y) (Nat.le_of_eq hey)
          have hyl := HY.out
          have hmk0 := Marks.nil (b := setAll y (pairs L)) (L := L) htile (by omega) (by omega) (fun t ht => by rw [htc.num t fun t' h => by omega]; exact HZ0.out t ht) HFR.out
          have HOF := Lib.hid (pairs_offs htile)
          generalize setAll y (pairs L) = Y at *
          have HS := Lib.hid hS; have MK0 := Lib.hid hmk0
          clear hS htile hlen hey hlt hj htc hyl hmk0
          obtain ⟨gL, W2, hmk2, t2⟩ := mx_mk HS.out (22 : Int) 22 rfl (by decide)
          obtain ⟨gB, W3, hmk3, t3⟩ := bo_mk t2 (L.length : Int) L.length rfl (by omega)
          have T5 := Lib.hid t3
          clear t2 t3 HS
          go_wp2
          rename ∀ (a : Act) (w : World), _ → _ => hkeep
          revert hkeep
          repeat (rename ∀ (a : Act) (w : World), _ → _ => hgx; clear hgx)
          repeat (rename Exit → Act → World → Prop => hgx; clear hgx)
          intro hkeep
          go_loopw [15] (fun vi wr => ∃ (k : Nat) (b : List UInt8) (ls : Nat → List Nat) (fl : List Bool) (ss : List Sv), vi = .int .i64 k ∧ k ≤ os.length + ts.length ∧ ss.length = 22 ∧ Marks b L ls fl ∧ St w.heap.size w wr (BoO (.slice (some ⟨gB, 0, none⟩) L.length L.length) fl :: MxO 74 (.slice (some ⟨gL, 0, none⟩) 22 22) ss (rowsOf ls) :: ArT q ⟨32, 16384, b⟩ :: BlsO (.slice a1 L.length c1) L :: [])) (fun vi _ => os.length + ts.length - (intOf vi).toNat)
          case atStart => exact ⟨0, Y, fun _ => [], List.replicate L.length false, List.replicate 22 ⟨none, 0, 0⟩, rfl, Nat.zero_le _, List.length_replicate .., MK0.out, T5.out⟩
          case round =>
            clear T5
            obtain ⟨k, b, ls, fl, ss, rfl, hk, hss, hmk, hS⟩ := hrel
            have MK := Lib.hid hmk; have HSS := Lib.hid hss; have HS := Lib.hid hS
            clear hmk hss hS
            have m0 : IntKind.i64.wrap ((os.length : Int) + (ts.length : Int)) = (os.length : Int) + (ts.length : Int) := IntWalk.i64_in _ (by omega)
            by_cases hkn : k < os.length + ts.length
            · have dkn : decide ((k : Int) < (os.length : Int) + (ts.length : Int)) = true := decide_eq_true (by omega)
              by_cases h0 : 0 < L.length
              · by_cases hp : k < os.length
                · -- put
                  obtain ⟨zb, zo, rfl, hcz⟩ := HO.out.at k hp
                  have hzw := wfI64 (HO.out.2 os[k] (List.getElem_mem hp))
                  have cz := HS.out.argCell hcz
                  generalize os[k] = z at *
                  have q0 := Int.emod_nonneg z (show (L.length : Int) ≠ 0 by omega)
                  have q1 := Int.emod_lt_of_pos z (show (0 : Int) < (L.length : Int) by omega)
                  have kpk := law_Pick wr z (L.length : Int) hzw.1 hzw.2 (by omega) (by omega)
                  obtain ⟨KI, hK⟩ := Int.eq_ofNat_of_zero_le q0
                  rw [hK] at kpk q1
                  have hKl : KI < L.length := by omega
                  have KPK := Lib.hid kpk
                  clear kpk hK q0 q1 hzw hcz
                  have hfl : KI < fl.length := by rw [MK.out.fln]; exact hKl
                  obtain ⟨gB', capB', eB, hcB, hfB, _⟩ := HS.out.setOwn (i := 0) rfl KI (by rw [List.length_map]; exact hfl)
                  injection eB with eB1 eB2 eB3
                  cases eB1
                  clear eB2 eB3
                  obtain ⟨fk, hfk⟩ : ∃ fk, fl[KI]? = some fk := ⟨_, List.getElem?_eq_getElem hfl⟩
                  have hmf : (fl.map (Value.bool ·))[KI]? = some (.bool fk) := by rw [List.getElem?_map, hfk]; rfl
                  replace hcB := hcB.trans ((List.getElem?_eq_getElem _).symm.trans hmf)
                  clear hmf
                  cases fk with
                  | true =>
                    clear hfB hfk
                    go_wp2_with fail
                    have kc := KPK.out
                    with_reducible refine kc.mono ?_
                    clear kc
                    rintro e w' ⟨rfl, rfl⟩
                    go_wp2
                    exact ⟨⟨k + 1, b, ls, fl, ss, by go_num, by omega, HSS.out, MK.out, HS.out⟩, by simp [intOf]; omega⟩
                  | false =>
                    obtain ⟨bb, bo, rfl, hr⟩ := bl_at (bls_sl HS.out (i := 3) rfl).2 KI hKl
                    have hmem := List.getElem_mem hKl
                    have hcx := MK.out.cls hmem
                    have hbx := (MK.out.tile.mem (mem_pairs hmem).1).2.1
                    have hsx := blkAt_some hbx
                    obtain ⟨b', hop, MK2⟩ := MK.out.put HOF.out KI hKl hfk
                    generalize hxe : L[KI] = x at *
                    have HXE := Lib.hid hxe
                    obtain ⟨k0, k1, k2⟩ := bl_cells hr
                    have kcl := ref_Class wr (x.size : Int) (by omega) (by omega)
                    rw [hcx.2] at kcl
                    have hc22 := hcx.1
                    have hci : (clsN x.size : Int) < 22 := by omega
                    generalize clsN x.size = C at *
                    have MKO := MK
                    have KCL := Lib.hid kcl; have HOP := Lib.hid hop
                    replace MK := Lib.hid MK2
                    clear kcl hop MK2 hcx hbx hsx hxe hmem hr
                    go_wp2_with fail
                    have kc := KPK.out
                    with_reducible refine kc.mono ?_
                    clear kc
                    rintro e w' ⟨rfl, rfl⟩
                    go_wp2_with fail
                    have kc := KCL.out
                    with_reducible refine kc.mono ?_
                    clear kc
                    rintro e w' ⟨rfl, rfl⟩
                    clear hcB hfB k1 k2
                    have cellsOf : ∀ (w' : World) (l : List Ob) (i : Nat), St w.heap.size w w' l → l[i]? = some (BlsO (.slice (some ⟨bb, bo, none⟩) L.length c1) L) → w'.cell? ⟨bb, bo + KI * 3, none⟩ = some (.int .i64 x.off) := by
                      intro w' l i h hi
                      obtain ⟨b', o', e', hr'⟩ := bl_at (bls_sl h hi).2 KI hKl
                      cases e'
                      rw [HXE.out] at hr'
                      exact (bl_cells hr').1
                    have CO := Lib.hid cellsOf
                    clear cellsOf k0
                    go_wp2_with (refine own_store HS.out 0 rfl KI (by rw [List.length_map]; exact hfl) rfl 4 _ _ rfl rfl (.bool true) rfl rfl (by kernel_rfl) ?_; intro w5 h5; have T5 := Lib.hid (show St w.heap.size w w5 (BoO (.slice (some ⟨gB, 0, none⟩) L.length L.length) (fl.set KI true) :: MxO 74 (.slice (some ⟨gL, 0, none⟩) 22 22) ss (rowsOf ls) :: ArT q ⟨32, 16384, b⟩ :: BlsO (.slice (some ⟨bb, bo, none⟩) L.length c1) L :: []) from bo_set h5); clear h5; have k0 := CO.out _ _ 3 T5.out rfl)
                    have kc := ls_Put (l := BoO (.slice (some ⟨gB, 0, none⟩) L.length L.length) (fl.set KI true) :: MxO 74 (.slice (some ⟨gL, 0, none⟩) 22 22) ss (rowsOf ls) :: ArT q ⟨32, 16384, b⟩ :: BlsO (.slice (some ⟨bb, bo, none⟩) L.length c1) L :: []) (i := 2) (b := b) (bs := 32) (cp := 16384) (p := q) T5.out (by simp) (x.off : Int)
                    rw [show putI b (x.off : Int) = some b' from by unfold putI; rw [if_pos (Int.natCast_nonneg _), Int.toNat_natCast]; exact HOP.out, show errP (some b') = .nilIface from rfl, Option.getD_some] at kc
                    with_reducible refine kc.mono ?_
                    clear kc
                    rintro e w6 ⟨rfl, t6⟩
                    have TX := Lib.hid (show St w.heap.size w w6 (BoO (.slice (some ⟨gB, 0, none⟩) L.length L.length) (fl.set KI true) :: MxO 74 (.slice (some ⟨gL, 0, none⟩) 22 22) ss (rowsOf ls) :: ArT q ⟨32, 16384, b'⟩ :: BlsO (.slice (some ⟨bb, bo, none⟩) L.length c1) L :: []) from t6)
                    clear t6 k0 T5
                    replace TX := Lib.hid TX.out.drew
                    go_wp2
                    refine flows_begin (S := fun w' => w'.cell? ⟨bb, bo + KI * 3, none⟩ = some (.int .i64 x.off)) hmixed 15 rfl (by repeat (first | with_reducible refine ps_then ?_ | with_reducible refine ps_block ?_ | with_reducible exact ps_body | refine ps_then ?_ | refine ps_block ?_ | exact ps_body)) (CO.out _ _ 3 TX.out rfl) (fun hps => ?_)
                    simp only [List.replicate]
                    generalize w6.drew = wx at TX ⊢
                    refine flows_take 0 (v := ?_) (a' := ?_) hps rfl (by kernel_rfl) rfl ?_ ?_ ?_
                    rotate_left 2
                    · intro w' hk; go_simp; try rfl
                    · simp only [Act.put, List.setIfInBounds_toArray, List.set_cons_succ, List.set_cons_zero]; try rfl
                    refine flows_take 1 (v := ?_) (a' := ?_) hps rfl (by kernel_rfl) rfl ?_ ?_ ?_
                    rotate_left 2
                    · intro w' hk; go_simp; try rfl
                    · simp only [Act.put, List.setIfInBounds_toArray, List.set_cons_succ, List.set_cons_zero]; try rfl
                    refine flows_take 2 (v := ?_) (a' := ?_) hps rfl (by kernel_rfl) rfl ?_ ?_ ?_
                    rotate_left 2
                    · intro w' hk; go_simp; try rfl
                    · simp only [Act.put, List.setIfInBounds_toArray, List.set_cons_succ, List.set_cons_zero]; try rfl
                    refine flows_take 3 (v := ?_) (a' := ?_) hps rfl (by kernel_rfl) rfl ?_ ?_ ?_
                    rotate_left 2
                    · intro w' hk; go_simp; try rfl
                    · simp only [Act.put, List.setIfInBounds_toArray, List.set_cons_succ, List.set_cons_zero]; try rfl
                    refine flows_take 4 (v := ?_) (a' := ?_) hps rfl (by kernel_rfl) rfl ?_ ?_ ?_
                    rotate_left 2
                    · intro w' hk; go_simp; try rfl
                    · simp only [Act.put, List.setIfInBounds_toArray, List.set_cons_succ, List.set_cons_zero]; try rfl
                    refine flows_take 5 (v := ?_) (a' := ?_) hps rfl (by kernel_rfl) rfl ?_ ?_ ?_
                    rotate_left 2
                    · intro w' hk; go_simp; try rfl
                    · simp only [Act.put, List.setIfInBounds_toArray, List.set_cons_succ, List.set_cons_zero]; try rfl
                    refine flows_take 6 (v := ?_) (a' := ?_) hps rfl (by kernel_rfl) rfl ?_ ?_ ?_
                    rotate_left 2
                    · intro w' hk; go_simp; try rfl
                    · simp only [Act.put, List.setIfInBounds_toArray, List.set_cons_succ, List.set_cons_zero]; try rfl
                    refine flows_take 8 (v := ?_) (a' := ?_) hps rfl (by kernel_rfl) rfl ?_ ?_ ?_
                    rotate_left 2
                    · intro w' hk; go_simp; try rfl
                    · simp only [Act.put, List.setIfInBounds_toArray, List.set_cons_succ, List.set_cons_zero]; try rfl
                    refine flows_take 9 (v := ?_) (a' := ?_) hps rfl (by kernel_rfl) rfl ?_ ?_ ?_
                    rotate_left 2
                    · intro w' hk; go_simp; try rfl
                    · simp only [Act.put, List.setIfInBounds_toArray, List.set_cons_succ, List.set_cons_zero]; try rfl
                    refine flows_take 10 (v := ?_) (a' := ?_) hps rfl (by kernel_rfl) rfl ?_ ?_ ?_
                    rotate_left 2
                    · intro w' hk; go_simp; try rfl
                    · simp only [Act.put, List.setIfInBounds_toArray, List.set_cons_succ, List.set_cons_zero]; try rfl
                    refine flows_any [7, 11] hps (by kernel_rfl) (by simp) (fun i hi => ?_)
                    simp only [List.mem_cons, List.not_mem_nil, or_false] at hi
                    rcases hi with rfl | rfl
                    · refine ⟨_, rfl, rfl, wp_next (fun K hK => ?_)⟩
                      go_simp
                      first | replace TX := Lib.hid (lit_one TX.out x.off x.off rfl) | skip
                      have kp := CO.out _ _ 4 TX.out rfl
                      refine hK _ _ ⟨kp, ?_⟩
                      clear kp hK
                      refine flows_one 11 hps rfl (by kernel_rfl) rfl (wp_next (fun K hK => ?_))
                      have hcss : C < ss.length := (by rw [HSS.out]; exact hc22)
                      first | (with_reducible have hmx := TX.out.mx (i := 1) at1 C hcss) | (with_reducible have hmx := TX.out.mx (i := 2) at2 C hcss)
                      obtain ⟨gX, capX, rX, eX, hc1, hc2, hcell, _, hrow, hsl⟩ := hmx
                      injection eX with eX1 eX2 eX3
                      cases eX1
                      clear eX2 eX3
                      clear hrow hsl hc1 hc2
                      go_simp
                      clear hcell
                      first | (with_reducible have kp := CO.out _ _ 3 TX.out at3) | (with_reducible have kp := CO.out _ _ 4 TX.out at4)
                      refine hK _ _ ⟨kp, ?_⟩
                      clear kp hK
                      refine flows_one 12 hps rfl (by kernel_rfl) rfl (wp_next (fun K hK => ?_))
                      obtain ⟨gX, capX, rX, eX, hc1, hc2, hcell, _, hrow, hsl⟩ := TX.out.mx (i := 2) rfl C (by rw [HSS.out]; exact hc22)
                      injection eX with eX1 eX2 eX3
                      cases eX1
                      clear eX2 eX3
                      rw [rowsOf_at _ hc22] at hrow
                      simp only [Option.some.injEq] at hrow
                      subst hrow
                      have hnX : (ss[C]'(by rw [HSS.out]; exact hc22)).n = (ls C).length := by have := hsl.len; simp [ints] at this; omega
                      have hlc : (ls C).length ≤ 1024 := MKO.out.lists.short MKO.out.tile.good MKO.out.max hc22
                      refine ints_app_at TX.out 0 rfl _ _ rfl rfl _ _ _ (ls C) rfl hsl (by rw [hnX]; simp; omega) ?_
                      intro vA wA hA
                      replace TX := Lib.hid hA
                      clear hA hsl hcell hnX hlc hc1 hc2
                      have kp := CO.out _ _ 4 TX.out rfl
                      refine hK _ _ ⟨kp, ?_⟩
                      clear kp hK
                      refine flows_take 13 (v := ?_) (a' := ?_) hps rfl (by kernel_rfl) rfl ?_ ?_ ?_
                      rotate_left 2
                      · intro w' hk; go_simp; try rfl
                      · simp only [Act.put, List.setIfInBounds_toArray, List.set_cons_succ, List.set_cons_zero]; try rfl
                      refine flows_one 14 hps rfl (by kernel_rfl) rfl (wp_next (fun K hK => ?_))
                      refine mx_store_at TX.out 1 rfl C (by rw [HSS.out]; exact hc22) 74 _ _ rfl rfl rfl (by kernel_rfl) ?_
                      intro wB sX hB
                      replace TX := Lib.hid (show St w.heap.size w wB (BoO (.slice (some ⟨gB, 0, none⟩) L.length L.length) (fl.set KI true) :: MxO 74 (.slice (some ⟨gL, 0, none⟩) 22 22) (ss.set C sX) (rowsOf (inL ls C x.off)) :: ArT q ⟨32, 16384, b'⟩ :: BlsO (.slice (some ⟨bb, bo, none⟩) L.length c1) L :: []) from by rw [inL_rows ls hc22]; exact hB)
                      clear hB
                      have kp := CO.out _ _ 3 TX.out rfl
                      refine hK _ _ ⟨kp, ?_⟩
                      clear kp hK
                      refine flows_done hps (by kernel_rfl) ?_
                      skip
                      have TZ := Lib.hid TX.out
                      clear TX
                      replace HSS := Lib.hid (show (ss.set C sX).length = 22 by rw [List.length_set]; exact HSS.out)
                      generalize ss.set C sX = ss2 at *
                      go_wp2
                      go_loopw [21] (fun vd wr => ∃ d : Nat, d ≤ 22 ∧ vd = .int .i64 d ∧ St w.heap.size w wr (BoO (.slice (some ⟨gB, 0, none⟩) L.length L.length) (fl.set KI true) :: MxO 74 (.slice (some ⟨gL, 0, none⟩) 22 22) ss2 (rowsOf (inL ls C x.off)) :: ArT q ⟨32, 16384, b'⟩ :: BlsO (.slice (some ⟨bb, bo, none⟩) L.length c1) L :: [])) (fun vd _ => 22 - (intOf vd).toNat)
                      case atStart => exact ⟨0, Nat.zero_le _, rfl, TZ.out⟩
                      case round =>
                        clear TZ
                        obtain ⟨d, hd, rfl, hS⟩ := hrel
                        by_cases hdlt : d < 22
                        · have d2 : decide ((d : Int) < 22) = true := decide_eq_true (by omega)
                          have hall := MK.out.lists.all MK.out.tile.good MK.out.len MK.out.max hdlt
                          have ka := ls_All (l := BoO (.slice (some ⟨gB, 0, none⟩) L.length L.length) (fl.set KI true) :: MxO 74 (.slice (some ⟨gL, 0, none⟩) 22 22) ss2 (rowsOf (inL ls C x.off)) :: ArT q ⟨32, 16384, b'⟩ :: BlsO (.slice (some ⟨bb, bo, none⟩) L.length c1) L :: []) (i := 2) (b := b') (bs := 32) (cp := 16384) (p := q) hS (by simp) d hdlt
                          rw [hall, show errA (some ((inL ls C x.off) d)) = .nilIface from rfl, Option.getD_some] at ka
                          have KA := Lib.hid ka
                          clear ka hS hall
                          go_wp2_with fail
                          have kc := KA.out
                          with_reducible refine kc.mono ?_
                          clear kc
                          rintro e w6 ⟨v6', rfl, t6⟩
                          have T6 := Lib.hid t6
                          clear t6
                          obtain ⟨a6, c6, e6, hs6⟩ := ints_slice T6.out (i := 0) rfl
                          subst e6
                          obtain ⟨gX, capX, rX, eX, hc1, hc2, hcell, _, hrow, hsl⟩ := T6.out.mx (i := 2) rfl d (by rw [HSS.out]; exact hdlt)
                          injection eX with eX1 eX2 eX3
                          cases eX1
                          clear eX2 eX3
                          rw [rowsOf_at _ hdlt] at hrow
                          simp only [Option.some.injEq] at hrow
                          subst hrow
                          have hnX : (ss2[d]'(by rw [HSS.out]; exact hdlt)).n = ((inL ls C x.off) d).length := by have := hsl.len; simp [ints] at this; omega
                          rw [hnX] at hcell hsl
                          generalize (ss2[d]'(by rw [HSS.out]; exact hdlt)).a = aX at *
                          generalize (ss2[d]'(by rw [HSS.out]; exact hdlt)).c = cX at *
                          have HS6 := Lib.hid hs6; have HS7 := Lib.hid hsl
                          clear hs6 hsl hnX
                          go_wp2_with fail
                          have kc := law_Ints _ a6 c6 ((inL ls C x.off) d) aX cX ((inL ls C x.off) d) HS6.out HS7.out
                          rw [if_pos rfl] at kc
                          with_reducible refine kc.mono ?_
                          clear kc
                          rintro e w7 ⟨rfl, b7⟩
                          have B7 := Lib.hid b7
                          clear b7
                          have T7 := Lib.hid (show St w.heap.size w w7 (BoO (.slice (some ⟨gB, 0, none⟩) L.length L.length) (fl.set KI true) :: MxO 74 (.slice (some ⟨gL, 0, none⟩) 22 22) ss2 (rowsOf (inL ls C x.off)) :: ArT q ⟨32, 16384, b'⟩ :: BlsO (.slice (some ⟨bb, bo, none⟩) L.length c1) L :: []) from T6.out.tail.below B7.out)
                          clear HS6 HS7 T6 B7 hcell
                          go_wp2
                          exact ⟨⟨d + 1, by omega, by go_num, T7.out⟩, by simp [intOf]; omega⟩
                        · obtain rfl : d = 22 := by omega
                          have HS := Lib.hid hS
                          clear hS
                          go_wp2
                          exact ⟨⟨k + 1, b', (inL ls C x.off), (fl.set KI true), ss2, by go_num, by omega, HSS.out, MK.out, HS.out⟩, by simp [intOf]; omega⟩
                    · refine ⟨_, rfl, rfl, wp_next (fun K hK => ?_)⟩
                      have hcss : C < ss.length := (by rw [HSS.out]; exact hc22)
                      first | (with_reducible have hmx := TX.out.mx (i := 1) at1 C hcss) | (with_reducible have hmx := TX.out.mx (i := 2) at2 C hcss)
                      obtain ⟨gX, capX, rX, eX, hc1, hc2, hcell, _, hrow, hsl⟩ := hmx
                      injection eX with eX1 eX2 eX3
                      cases eX1
                      clear eX2 eX3
                      clear hrow hsl hc1 hc2
                      go_simp
                      clear hcell
                      first | (with_reducible have kp := CO.out _ _ 3 TX.out at3) | (with_reducible have kp := CO.out _ _ 4 TX.out at4)
                      refine hK _ _ ⟨kp, ?_⟩
                      clear kp hK
                      refine flows_one 7 hps rfl (by kernel_rfl) rfl (wp_next (fun K hK => ?_))
                      go_simp
                      first | replace TX := Lib.hid (lit_one TX.out x.off x.off rfl) | skip
                      have kp := CO.out _ _ 4 TX.out rfl
                      refine hK _ _ ⟨kp, ?_⟩
                      clear kp hK
                      refine flows_one 12 hps rfl (by kernel_rfl) rfl (wp_next (fun K hK => ?_))
                      obtain ⟨gX, capX, rX, eX, hc1, hc2, hcell, _, hrow, hsl⟩ := TX.out.mx (i := 2) rfl C (by rw [HSS.out]; exact hc22)
                      injection eX with eX1 eX2 eX3
                      cases eX1
                      clear eX2 eX3
                      rw [rowsOf_at _ hc22] at hrow
                      simp only [Option.some.injEq] at hrow
                      subst hrow
                      have hnX : (ss[C]'(by rw [HSS.out]; exact hc22)).n = (ls C).length := by have := hsl.len; simp [ints] at this; omega
                      have hlc : (ls C).length ≤ 1024 := MKO.out.lists.short MKO.out.tile.good MKO.out.max hc22
                      refine ints_app_at TX.out 0 rfl _ _ rfl rfl _ _ _ (ls C) rfl hsl (by rw [hnX]; simp; omega) ?_
                      intro vA wA hA
                      replace TX := Lib.hid hA
                      clear hA hsl hcell hnX hlc hc1 hc2
                      have kp := CO.out _ _ 4 TX.out rfl
                      refine hK _ _ ⟨kp, ?_⟩
                      clear kp hK
                      refine flows_take 13 (v := ?_) (a' := ?_) hps rfl (by kernel_rfl) rfl ?_ ?_ ?_
                      rotate_left 2
                      · intro w' hk; go_simp; try rfl
                      · simp only [Act.put, List.setIfInBounds_toArray, List.set_cons_succ, List.set_cons_zero]; try rfl
                      refine flows_one 14 hps rfl (by kernel_rfl) rfl (wp_next (fun K hK => ?_))
                      refine mx_store_at TX.out 1 rfl C (by rw [HSS.out]; exact hc22) 74 _ _ rfl rfl rfl (by kernel_rfl) ?_
                      intro wB sX hB
                      replace TX := Lib.hid (show St w.heap.size w wB (BoO (.slice (some ⟨gB, 0, none⟩) L.length L.length) (fl.set KI true) :: MxO 74 (.slice (some ⟨gL, 0, none⟩) 22 22) (ss.set C sX) (rowsOf (inL ls C x.off)) :: ArT q ⟨32, 16384, b'⟩ :: BlsO (.slice (some ⟨bb, bo, none⟩) L.length c1) L :: []) from by rw [inL_rows ls hc22]; exact hB)
                      clear hB
                      have kp := CO.out _ _ 3 TX.out rfl
                      refine hK _ _ ⟨kp, ?_⟩
                      clear kp hK
                      refine flows_done hps (by kernel_rfl) ?_
                      skip
                      have TZ := Lib.hid TX.out
                      clear TX
                      replace HSS := Lib.hid (show (ss.set C sX).length = 22 by rw [List.length_set]; exact HSS.out)
                      generalize ss.set C sX = ss2 at *
                      go_wp2
                      go_loopw [21] (fun vd wr => ∃ d : Nat, d ≤ 22 ∧ vd = .int .i64 d ∧ St w.heap.size w wr (BoO (.slice (some ⟨gB, 0, none⟩) L.length L.length) (fl.set KI true) :: MxO 74 (.slice (some ⟨gL, 0, none⟩) 22 22) ss2 (rowsOf (inL ls C x.off)) :: ArT q ⟨32, 16384, b'⟩ :: BlsO (.slice (some ⟨bb, bo, none⟩) L.length c1) L :: [])) (fun vd _ => 22 - (intOf vd).toNat)
                      case atStart => exact ⟨0, Nat.zero_le _, rfl, TZ.out⟩
                      case round =>
                        clear TZ
                        obtain ⟨d, hd, rfl, hS⟩ := hrel
                        by_cases hdlt : d < 22
                        · have d2 : decide ((d : Int) < 22) = true := decide_eq_true (by omega)
                          have hall := MK.out.lists.all MK.out.tile.good MK.out.len MK.out.max hdlt
                          have ka := ls_All (l := BoO (.slice (some ⟨gB, 0, none⟩) L.length L.length) (fl.set KI true) :: MxO 74 (.slice (some ⟨gL, 0, none⟩) 22 22) ss2 (rowsOf (inL ls C x.off)) :: ArT q ⟨32, 16384, b'⟩ :: BlsO (.slice (some ⟨bb, bo, none⟩) L.length c1) L :: []) (i := 2) (b := b') (bs := 32) (cp := 16384) (p := q) hS (by simp) d hdlt
                          rw [hall, show errA (some ((inL ls C x.off) d)) = .nilIface from rfl, Option.getD_some] at ka
                          have KA := Lib.hid ka
                          clear ka hS hall
                          go_wp2_with fail
                          have kc := KA.out
                          with_reducible refine kc.mono ?_
                          clear kc
                          rintro e w6 ⟨v6', rfl, t6⟩
                          have T6 := Lib.hid t6
                          clear t6
                          obtain ⟨a6, c6, e6, hs6⟩ := ints_slice T6.out (i := 0) rfl
                          subst e6
                          obtain ⟨gX, capX, rX, eX, hc1, hc2, hcell, _, hrow, hsl⟩ := T6.out.mx (i := 2) rfl d (by rw [HSS.out]; exact hdlt)
                          injection eX with eX1 eX2 eX3
                          cases eX1
                          clear eX2 eX3
                          rw [rowsOf_at _ hdlt] at hrow
                          simp only [Option.some.injEq] at hrow
                          subst hrow
                          have hnX : (ss2[d]'(by rw [HSS.out]; exact hdlt)).n = ((inL ls C x.off) d).length := by have := hsl.len; simp [ints] at this; omega
                          rw [hnX] at hcell hsl
                          generalize (ss2[d]'(by rw [HSS.out]; exact hdlt)).a = aX at *
                          generalize (ss2[d]'(by rw [HSS.out]; exact hdlt)).c = cX at *
                          have HS6 := Lib.hid hs6; have HS7 := Lib.hid hsl
                          clear hs6 hsl hnX
                          go_wp2_with fail
                          have kc := law_Ints _ a6 c6 ((inL ls C x.off) d) aX cX ((inL ls C x.off) d) HS6.out HS7.out
                          rw [if_pos rfl] at kc
                          with_reducible refine kc.mono ?_
                          clear kc
                          rintro e w7 ⟨rfl, b7⟩
                          have B7 := Lib.hid b7
                          clear b7
                          have T7 := Lib.hid (show St w.heap.size w w7 (BoO (.slice (some ⟨gB, 0, none⟩) L.length L.length) (fl.set KI true) :: MxO 74 (.slice (some ⟨gL, 0, none⟩) 22 22) ss2 (rowsOf (inL ls C x.off)) :: ArT q ⟨32, 16384, b'⟩ :: BlsO (.slice (some ⟨bb, bo, none⟩) L.length c1) L :: []) from T6.out.tail.below B7.out)
                          clear HS6 HS7 T6 B7 hcell
                          go_wp2
                          exact ⟨⟨d + 1, by omega, by go_num, T7.out⟩, by simp [intOf]; omega⟩
                        · obtain rfl : d = 22 := by omega
                          have HS := Lib.hid hS
                          clear hS
                          go_wp2
                          exact ⟨⟨k + 1, b', (inL ls C x.off), (fl.set KI true), ss2, by go_num, by omega, HSS.out, MK.out, HS.out⟩, by simp [intOf]; omega⟩
                · -- take
                  have hkt : k - os.length < ts.length := by omega
                  obtain ⟨zb, zo, rfl, hcz⟩ := HT.out.at (k - os.length) hkt
                  have hzw := wfI64 (HT.out.2 ts[k - os.length] (List.getElem_mem hkt))
                  have cz := HS.out.argCell hcz
                  generalize ts[k - os.length] = z at *
                  have m5 : IntKind.i64.wrap ((k : Int) - (os.length : Int)) = ((k - os.length : Nat) : Int) := by rw [IntWalk.i64_in _ (by omega)]; omega
                  generalize k - os.length = kt at *
                  have q0 := Int.emod_nonneg z (show (L.length : Int) ≠ 0 by omega)
                  have q1 := Int.emod_lt_of_pos z (show (0 : Int) < (L.length : Int) by omega)
                  have kpk := law_Pick wr z (L.length : Int) hzw.1 hzw.2 (by omega) (by omega)
                  obtain ⟨KI, hK⟩ := Int.eq_ofNat_of_zero_le q0
                  rw [hK] at kpk q1
                  have hKl : KI < L.length := by omega
                  have KPK := Lib.hid kpk
                  clear kpk hK q0 q1 hzw hcz
                  have hfl : KI < fl.length := by rw [MK.out.fln]; exact hKl
                  obtain ⟨gB', capB', eB, hcB, hfB, _⟩ := HS.out.setOwn (i := 0) rfl KI (by rw [List.length_map]; exact hfl)
                  injection eB with eB1 eB2 eB3
                  cases eB1
                  clear eB2 eB3
                  obtain ⟨fk, hfk⟩ : ∃ fk, fl[KI]? = some fk := ⟨_, List.getElem?_eq_getElem hfl⟩
                  have hmf : (fl.map (Value.bool ·))[KI]? = some (.bool fk) := by rw [List.getElem?_map, hfk]; rfl
                  replace hcB := hcB.trans ((List.getElem?_eq_getElem _).symm.trans hmf)
                  clear hmf
                  cases fk with
                  | false =>
                    clear hfB hfk
                    go_wp2_with fail
                    have kc := KPK.out
                    with_reducible refine kc.mono ?_
                    clear kc
                    rintro e w' ⟨rfl, rfl⟩
                    go_wp2
                    exact ⟨⟨k + 1, b, ls, fl, ss, by go_num, by omega, HSS.out, MK.out, HS.out⟩, by simp [intOf]; omega⟩
                  | true =>
                    obtain ⟨bb, bo, rfl, hr⟩ := bl_at (bls_sl HS.out (i := 3) rfl).2 KI hKl
                    have hmem := List.getElem_mem hKl
                    have hcx := MK.out.cls hmem
                    have hbx := (MK.out.tile.mem (mem_pairs hmem).1).2.1
                    have hsx := blkAt_some hbx
                    obtain ⟨b', hop, MK2⟩ := MK.out.take HOF.out KI hKl hfk
                    generalize hxe : L[KI] = x at *
                    have HXE := Lib.hid hxe
                    obtain ⟨k0, k1, k2⟩ := bl_cells hr
                    have kcl := ref_Class wr (x.size : Int) (by omega) (by omega)
                    rw [hcx.2] at kcl
                    have hc22 := hcx.1
                    have hci : (clsN x.size : Int) < 22 := by omega
                    generalize clsN x.size = C at *
                    have MKO := MK
                    have KCL := Lib.hid kcl; have HOP := Lib.hid hop
                    replace MK := Lib.hid MK2
                    clear kcl hop MK2 hcx hbx hsx hxe hmem hr
                    go_wp2_with fail
                    have kc := KPK.out
                    with_reducible refine kc.mono ?_
                    clear kc
                    rintro e w' ⟨rfl, rfl⟩
                    go_wp2_with fail
                    have kc := KCL.out
                    with_reducible refine kc.mono ?_
                    clear kc
                    rintro e w' ⟨rfl, rfl⟩
                    clear hcB hfB k1 k2
                    have cellsOf : ∀ (w' : World) (l : List Ob) (i : Nat), St w.heap.size w w' l → l[i]? = some (BlsO (.slice (some ⟨bb, bo, none⟩) L.length c1) L) → w'.cell? ⟨bb, bo + KI * 3, none⟩ = some (.int .i64 x.off) := by
                      intro w' l i h hi
                      obtain ⟨b', o', e', hr'⟩ := bl_at (bls_sl h hi).2 KI hKl
                      cases e'
                      rw [HXE.out] at hr'
                      exact (bl_cells hr').1
                    have CO := Lib.hid cellsOf
                    clear cellsOf k0
                    go_wp2_with (refine own_store HS.out 0 rfl KI (by rw [List.length_map]; exact hfl) rfl 4 _ _ rfl rfl (.bool false) rfl rfl (by kernel_rfl) ?_; intro w5 h5; have T5 := Lib.hid (show St w.heap.size w w5 (BoO (.slice (some ⟨gB, 0, none⟩) L.length L.length) (fl.set KI false) :: MxO 74 (.slice (some ⟨gL, 0, none⟩) 22 22) ss (rowsOf ls) :: ArT q ⟨32, 16384, b⟩ :: BlsO (.slice (some ⟨bb, bo, none⟩) L.length c1) L :: []) from bo_set h5); clear h5; have k0 := CO.out _ _ 3 T5.out rfl)
                    have kc := ls_Take (l := BoO (.slice (some ⟨gB, 0, none⟩) L.length L.length) (fl.set KI false) :: MxO 74 (.slice (some ⟨gL, 0, none⟩) 22 22) ss (rowsOf ls) :: ArT q ⟨32, 16384, b⟩ :: BlsO (.slice (some ⟨bb, bo, none⟩) L.length c1) L :: []) (i := 2) (b := b) (bs := 32) (cp := 16384) (p := q) T5.out (by simp) (x.off : Int)
                    rw [show takeI b (x.off : Int) = some b' from by unfold takeI; rw [if_pos (Int.natCast_nonneg _), Int.toNat_natCast]; exact HOP.out, show errP (some b') = .nilIface from rfl, Option.getD_some] at kc
                    with_reducible refine kc.mono ?_
                    clear kc
                    rintro e w6 ⟨rfl, t6⟩
                    have TX := Lib.hid (show St w.heap.size w w6 (BoO (.slice (some ⟨gB, 0, none⟩) L.length L.length) (fl.set KI false) :: MxO 74 (.slice (some ⟨gL, 0, none⟩) 22 22) ss (rowsOf ls) :: ArT q ⟨32, 16384, b'⟩ :: BlsO (.slice (some ⟨bb, bo, none⟩) L.length c1) L :: []) from t6)
                    clear t6 k0 T5
                    go_wp2
                    go_loopw [19, 20] (fun vr vj wr => ∃ j : Nat, j ≤ (ls C).length ∧ vj = .int .i64 j ∧ St w.heap.size w wr (IntsO vr (((ls C).take j).filter (· ≠ x.off)) :: BoO (.slice (some ⟨gB, 0, none⟩) L.length L.length) (fl.set KI false) :: MxO 74 (.slice (some ⟨gL, 0, none⟩) 22 22) ss (rowsOf ls) :: ArT q ⟨32, 16384, b'⟩ :: BlsO (.slice (some ⟨bb, bo, none⟩) L.length c1) L :: [])) (fun _ vj _ => (ls C).length - (intOf vj).toNat)
                    case atStart => exact ⟨0, Nat.zero_le _, rfl, TX.out.addOwn (Below.refl _ _) (World.ownsRow_nil _ _ _ _)⟩
                    case round =>
                      clear TX
                      obtain ⟨j, hj, rfl, hS⟩ := hrel
                      have hlc : (ls C).length ≤ 1024 := MKO.out.lists.short MKO.out.tile.good MKO.out.max hc22
                      obtain ⟨gX, capX, rX, eX, hc1, hc2, hcell, _, hrow, hsl⟩ := hS.mx (i := 2) rfl C (by rw [HSS.out]; exact hc22)
                      injection eX with eX1 eX2 eX3
                      cases eX1
                      clear eX2 eX3 hc1 hc2
                      rw [rowsOf_at _ hc22] at hrow
                      simp only [Option.some.injEq] at hrow
                      subst hrow
                      have hnX : (ss[C]'(by rw [HSS.out]; exact hc22)).n = (ls C).length := by have := hsl.len; simp [ints] at this; omega
                      rw [hnX] at hcell hsl
                      clear hnX
                      generalize (ss[C]'(by rw [HSS.out]; exact hc22)).a = aX at *
                      generalize (ss[C]'(by rw [HSS.out]; exact hc22)).c = cX at *
                      have hq1 := hsl.cap; have hq2 := hsl.room
                      by_cases hjl : j < (ls C).length
                      · obtain ⟨ib, io, rfl, hI⟩ := hsl.cells j (.int .i64 ((ls C)[j] : Nat)) (by simp [ints, hjl])
                        have hfs : ((ls C).take (j + 1)).filter (· ≠ x.off) = ((ls C).take j).filter (· ≠ x.off) ++ (if (ls C)[j] = x.off then [] else [(ls C)[j]]) := by
                          rw [List.take_succ_eq_append_getElem hjl, List.filter_append]
                          congr 1
                          by_cases he : (ls C)[j] = x.off
                          · rw [if_pos he]; simp [he]
                          · rw [if_neg he]; simp [he]
                        have hrl : (((ls C).take j).filter (· ≠ x.off)).length ≤ 1000000 := by
                          have h1 := List.length_filter_le (fun y => decide (y ≠ x.off)) ((ls C).take j)
                          rw [List.length_take] at h1
                          omega
                        generalize (ls C)[j] = y at *
                        have ko := CO.out _ _ 4 hS rfl
                        have kd := (Keep.refl (fun _ => False) wr).drew
                        have HC := Lib.hid (mid_keep kd hcell (fun h => h)); have HI := Lib.hid (mid_keep kd hI (fun h => h)); have HKO := Lib.hid (mid_keep kd ko (fun h => h))
                        have HFS := Lib.hid hfs
                        have TS := Lib.hid hS.drew
                        generalize ((ls C).take j).filter (· ≠ x.off) = R at *
                        clear hS hsl hI ko kd hfs
                        by_cases he : y = x.off
                        · have d9 : ((y : Int) != (x.off : Int)) = false := by rw [he]; simp
                          have hn := HFS.out
                          rw [if_pos he, List.append_nil] at hn
                          have HN := Lib.hid hn
                          clear he hn
                          go_wp2
                          refine flowe_begin (F := fun _ => False) hmixed 13 rfl (by repeat (first | with_reducible refine ps_then ?_ | with_reducible refine ps_block ?_ | with_reducible exact ps_body | refine ps_then ?_ | refine ps_block ?_ | exact ps_body)) (fun hps => ?_)
                          simp only [List.replicate]
                          have kk := (Keep.refl (fun _ => False) (wr)).drew
                          refine flowe_take 0 (v := ?_) (a' := ?_) hps rfl (by kernel_rfl) rfl ?_ ?_ ?_
                          rotate_left 2
                          · intro w' hk; go_simp; try rfl
                          · simp only [Act.put, List.setIfInBounds_toArray, List.set_cons_succ, List.set_cons_zero]; try rfl
                          refine flowe_take 1 (v := ?_) (a' := ?_) hps rfl (by kernel_rfl) rfl ?_ ?_ ?_
                          rotate_left 2
                          · intro w' hk; go_simp; try rfl
                          · simp only [Act.put, List.setIfInBounds_toArray, List.set_cons_succ, List.set_cons_zero]; try rfl
                          refine flowe_take 2 (v := ?_) (a' := ?_) hps rfl (by kernel_rfl) rfl ?_ ?_ ?_
                          rotate_left 2
                          · intro w' hk; go_simp; try rfl
                          · simp only [Act.put, List.setIfInBounds_toArray, List.set_cons_succ, List.set_cons_zero]; try rfl
                          refine flowe_take 3 (v := ?_) (a' := ?_) hps rfl (by kernel_rfl) rfl ?_ ?_ ?_
                          rotate_left 2
                          · intro w' hk; have c0 := mid_keep hk HC.out (fun h => h); go_simp; try rfl
                          · simp only [Act.put, List.setIfInBounds_toArray, List.set_cons_succ, List.set_cons_zero]; try rfl
                          refine flowe_take 4 (v := ?_) (a' := ?_) hps rfl (by kernel_rfl) rfl ?_ ?_ ?_
                          rotate_left 2
                          · intro w' hk; go_simp; try rfl
                          · simp only [Act.put, List.setIfInBounds_toArray, List.set_cons_succ, List.set_cons_zero]; try rfl
                          refine flowe_take 5 (v := ?_) (a' := ?_) hps rfl (by kernel_rfl) rfl ?_ ?_ ?_
                          rotate_left 2
                          · intro w' hk; go_simp; try rfl
                          · simp only [Act.put, List.setIfInBounds_toArray, List.set_cons_succ, List.set_cons_zero]; try rfl
                          refine flowe_take 6 (v := ?_) (a' := ?_) hps rfl (by kernel_rfl) rfl ?_ ?_ ?_
                          rotate_left 2
                          · intro w' hk; have c0 := mid_keep hk HI.out (fun h => h); go_simp; try rfl
                          · simp only [Act.put, List.setIfInBounds_toArray, List.set_cons_succ, List.set_cons_zero]; try rfl
                          refine flowe_take 7 (v := ?_) (a' := ?_) hps rfl (by kernel_rfl) rfl ?_ ?_ ?_
                          rotate_left 2
                          · intro w' hk; go_simp; try rfl
                          · simp only [Act.put, List.setIfInBounds_toArray, List.set_cons_succ, List.set_cons_zero]; try rfl
                          refine flowe_take 8 (v := ?_) (a' := ?_) hps rfl (by kernel_rfl) rfl ?_ ?_ ?_
                          rotate_left 2
                          · intro w' hk; go_simp; try rfl
                          · simp only [Act.put, List.setIfInBounds_toArray, List.set_cons_succ, List.set_cons_zero]; try rfl
                          refine flowe_take 9 (v := ?_) (a' := ?_) hps rfl (by kernel_rfl) rfl ?_ ?_ ?_
                          rotate_left 2
                          · intro w' hk; go_simp; try rfl
                          · simp only [Act.put, List.setIfInBounds_toArray, List.set_cons_succ, List.set_cons_zero]; try rfl
                          refine flowe_take 10 (v := ?_) (a' := ?_) hps rfl (by kernel_rfl) rfl ?_ ?_ ?_
                          rotate_left 2
                          · intro w' hk; go_simp; try rfl
                          · simp only [Act.put, List.setIfInBounds_toArray, List.set_cons_succ, List.set_cons_zero]; try rfl
                          refine flowe_take 11 (v := ?_) (a' := ?_) hps rfl (by kernel_rfl) rfl ?_ ?_ ?_
                          rotate_left 2
                          · intro w' hk; have c0 := mid_keep hk HKO.out (fun h => h); go_simp; try rfl
                          · simp only [Act.put, List.setIfInBounds_toArray, List.set_cons_succ, List.set_cons_zero]; try rfl
                          refine flowe_take 12 (v := ?_) (a' := ?_) hps rfl (by kernel_rfl) rfl ?_ ?_ ?_
                          rotate_left 2
                          · intro w' hk; go_simp; try rfl
                          · simp only [Act.put, List.setIfInBounds_toArray, List.set_cons_succ, List.set_cons_zero]; try rfl
                          refine flowe_done hps (by kernel_rfl) ?_
                          clear kk
                          go_wp2
                          exact ⟨⟨j + 1, hjl, by go_num, by rw [HN.out]; exact TS.out⟩, by simp [intOf]; omega⟩
                        · have d9 : ((y : Int) != (x.off : Int)) = true := by rw [bne_iff_ne]; omega
                          have hn := HFS.out
                          rw [if_neg he] at hn
                          have HN := Lib.hid hn
                          clear he hn
                          go_wp2
                          refine flowe_begin (F := fun _ => False) hmixed 13 rfl (by repeat (first | with_reducible refine ps_then ?_ | with_reducible refine ps_block ?_ | with_reducible exact ps_body | refine ps_then ?_ | refine ps_block ?_ | exact ps_body)) (fun hps => ?_)
                          simp only [List.replicate]
                          have kk := (Keep.refl (fun _ => False) (wr)).drew
                          refine flowe_take 0 (v := ?_) (a' := ?_) hps rfl (by kernel_rfl) rfl ?_ ?_ ?_
                          rotate_left 2
                          · intro w' hk; go_simp; try rfl
                          · simp only [Act.put, List.setIfInBounds_toArray, List.set_cons_succ, List.set_cons_zero]; try rfl
                          refine flowe_take 1 (v := ?_) (a' := ?_) hps rfl (by kernel_rfl) rfl ?_ ?_ ?_
                          rotate_left 2
                          · intro w' hk; go_simp; try rfl
                          · simp only [Act.put, List.setIfInBounds_toArray, List.set_cons_succ, List.set_cons_zero]; try rfl
                          refine flowe_take 2 (v := ?_) (a' := ?_) hps rfl (by kernel_rfl) rfl ?_ ?_ ?_
                          rotate_left 2
                          · intro w' hk; go_simp; try rfl
                          · simp only [Act.put, List.setIfInBounds_toArray, List.set_cons_succ, List.set_cons_zero]; try rfl
                          refine flowe_take 3 (v := ?_) (a' := ?_) hps rfl (by kernel_rfl) rfl ?_ ?_ ?_
                          rotate_left 2
                          · intro w' hk; have c0 := mid_keep hk HC.out (fun h => h); go_simp; try rfl
                          · simp only [Act.put, List.setIfInBounds_toArray, List.set_cons_succ, List.set_cons_zero]; try rfl
                          refine flowe_take 4 (v := ?_) (a' := ?_) hps rfl (by kernel_rfl) rfl ?_ ?_ ?_
                          rotate_left 2
                          · intro w' hk; go_simp; try rfl
                          · simp only [Act.put, List.setIfInBounds_toArray, List.set_cons_succ, List.set_cons_zero]; try rfl
                          refine flowe_take 5 (v := ?_) (a' := ?_) hps rfl (by kernel_rfl) rfl ?_ ?_ ?_
                          rotate_left 2
                          · intro w' hk; go_simp; try rfl
                          · simp only [Act.put, List.setIfInBounds_toArray, List.set_cons_succ, List.set_cons_zero]; try rfl
                          refine flowe_take 6 (v := ?_) (a' := ?_) hps rfl (by kernel_rfl) rfl ?_ ?_ ?_
                          rotate_left 2
                          · intro w' hk; have c0 := mid_keep hk HI.out (fun h => h); go_simp; try rfl
                          · simp only [Act.put, List.setIfInBounds_toArray, List.set_cons_succ, List.set_cons_zero]; try rfl
                          refine flowe_take 7 (v := ?_) (a' := ?_) hps rfl (by kernel_rfl) rfl ?_ ?_ ?_
                          rotate_left 2
                          · intro w' hk; go_simp; try rfl
                          · simp only [Act.put, List.setIfInBounds_toArray, List.set_cons_succ, List.set_cons_zero]; try rfl
                          refine flowe_take 8 (v := ?_) (a' := ?_) hps rfl (by kernel_rfl) rfl ?_ ?_ ?_
                          rotate_left 2
                          · intro w' hk; go_simp; try rfl
                          · simp only [Act.put, List.setIfInBounds_toArray, List.set_cons_succ, List.set_cons_zero]; try rfl
                          refine flowe_take 9 (v := ?_) (a' := ?_) hps rfl (by kernel_rfl) rfl ?_ ?_ ?_
                          rotate_left 2
                          · intro w' hk; go_simp; try rfl
                          · simp only [Act.put, List.setIfInBounds_toArray, List.set_cons_succ, List.set_cons_zero]; try rfl
                          refine flowe_take 10 (v := ?_) (a' := ?_) hps rfl (by kernel_rfl) rfl ?_ ?_ ?_
                          rotate_left 2
                          · intro w' hk; go_simp; try rfl
                          · simp only [Act.put, List.setIfInBounds_toArray, List.set_cons_succ, List.set_cons_zero]; try rfl
                          refine flowe_take 11 (v := ?_) (a' := ?_) hps rfl (by kernel_rfl) rfl ?_ ?_ ?_
                          rotate_left 2
                          · intro w' hk; have c0 := mid_keep hk HKO.out (fun h => h); go_simp; try rfl
                          · simp only [Act.put, List.setIfInBounds_toArray, List.set_cons_succ, List.set_cons_zero]; try rfl
                          refine flowe_take 12 (v := ?_) (a' := ?_) hps rfl (by kernel_rfl) rfl ?_ ?_ ?_
                          rotate_left 2
                          · intro w' hk; go_simp; try rfl
                          · simp only [Act.put, List.setIfInBounds_toArray, List.set_cons_succ, List.set_cons_zero]; try rfl
                          refine flowe_done hps (by kernel_rfl) ?_
                          clear kk hcell
                          have hcell := HC.out; have hI := HI.out
                          go_wp2_with (at_builtin; go_must (refine ints_app TS.out 0 rfl rfl (.tmp 209) (.tmp 217) rfl rfl (y : Int) y rfl rfl hrl ?_; intro v7 w7 h7; have T7 := Lib.hid h7; clear h7))
                          exact ⟨⟨j + 1, hjl, by go_num, by rw [HN.out]; exact T7.out⟩, by simp [intOf]; omega⟩
                      · obtain rfl : j = (ls C).length := by omega
                        rw [List.take_length] at hS
                        have HS2 := Lib.hid hS
                        clear hS hsl
                        go_wp2_with (refine mx_store HS2.out 1 rfl C (by rw [HSS.out]; exact hc22) rfl 74 _ _ rfl rfl rfl (by kernel_rfl) ?_; intro wB sX hB; have TX := Lib.hid (show St w.heap.size w wB (BoO (.slice (some ⟨gB, 0, none⟩) L.length L.length) (fl.set KI false) :: MxO 74 (.slice (some ⟨gL, 0, none⟩) 22 22) (ss.set C sX) (rowsOf (outL ls C x.off)) :: ArT q ⟨32, 16384, b'⟩ :: BlsO (.slice (some ⟨bb, bo, none⟩) L.length c1) L :: []) from by rw [outL_rows ls hc22]; exact hB); clear hB)
                        clear hcell
                        have TZ := Lib.hid TX.out
                        clear TX
                        replace HSS := Lib.hid (show (ss.set C sX).length = 22 by rw [List.length_set]; exact HSS.out)
                        generalize ss.set C sX = ss2 at *
                        go_loopw [21] (fun vd wr => ∃ d : Nat, d ≤ 22 ∧ vd = .int .i64 d ∧ St w.heap.size w wr (BoO (.slice (some ⟨gB, 0, none⟩) L.length L.length) (fl.set KI false) :: MxO 74 (.slice (some ⟨gL, 0, none⟩) 22 22) ss2 (rowsOf (outL ls C x.off)) :: ArT q ⟨32, 16384, b'⟩ :: BlsO (.slice (some ⟨bb, bo, none⟩) L.length c1) L :: [])) (fun vd _ => 22 - (intOf vd).toNat)
                        case atStart => exact ⟨0, Nat.zero_le _, rfl, TZ.out⟩
                        case round =>
                          clear TZ
                          obtain ⟨d, hd, rfl, hS⟩ := hrel
                          by_cases hdlt : d < 22
                          · have d2 : decide ((d : Int) < 22) = true := decide_eq_true (by omega)
                            have hall := MK.out.lists.all MK.out.tile.good MK.out.len MK.out.max hdlt
                            have ka := ls_All (l := BoO (.slice (some ⟨gB, 0, none⟩) L.length L.length) (fl.set KI false) :: MxO 74 (.slice (some ⟨gL, 0, none⟩) 22 22) ss2 (rowsOf (outL ls C x.off)) :: ArT q ⟨32, 16384, b'⟩ :: BlsO (.slice (some ⟨bb, bo, none⟩) L.length c1) L :: []) (i := 2) (b := b') (bs := 32) (cp := 16384) (p := q) hS (by simp) d hdlt
                            rw [hall, show errA (some ((outL ls C x.off) d)) = .nilIface from rfl, Option.getD_some] at ka
                            have KA := Lib.hid ka
                            clear ka hS hall
                            go_wp2_with fail
                            have kc := KA.out
                            with_reducible refine kc.mono ?_
                            clear kc
                            rintro e w6 ⟨v6', rfl, t6⟩
                            have T6 := Lib.hid t6
                            clear t6
                            obtain ⟨a6, c6, e6, hs6⟩ := ints_slice T6.out (i := 0) rfl
                            subst e6
                            obtain ⟨gX, capX, rX, eX, hc1, hc2, hcell, _, hrow, hsl⟩ := T6.out.mx (i := 2) rfl d (by rw [HSS.out]; exact hdlt)
                            injection eX with eX1 eX2 eX3
                            cases eX1
                            clear eX2 eX3
                            rw [rowsOf_at _ hdlt] at hrow
                            simp only [Option.some.injEq] at hrow
                            subst hrow
                            have hnX : (ss2[d]'(by rw [HSS.out]; exact hdlt)).n = ((outL ls C x.off) d).length := by have := hsl.len; simp [ints] at this; omega
                            rw [hnX] at hcell hsl
                            generalize (ss2[d]'(by rw [HSS.out]; exact hdlt)).a = aX at *
                            generalize (ss2[d]'(by rw [HSS.out]; exact hdlt)).c = cX at *
                            have HS6 := Lib.hid hs6; have HS7 := Lib.hid hsl
                            clear hs6 hsl hnX
                            go_wp2_with fail
                            have kc := law_Ints _ a6 c6 ((outL ls C x.off) d) aX cX ((outL ls C x.off) d) HS6.out HS7.out
                            rw [if_pos rfl] at kc
                            with_reducible refine kc.mono ?_
                            clear kc
                            rintro e w7 ⟨rfl, b7⟩
                            have B7 := Lib.hid b7
                            clear b7
                            have T7 := Lib.hid (show St w.heap.size w w7 (BoO (.slice (some ⟨gB, 0, none⟩) L.length L.length) (fl.set KI false) :: MxO 74 (.slice (some ⟨gL, 0, none⟩) 22 22) ss2 (rowsOf (outL ls C x.off)) :: ArT q ⟨32, 16384, b'⟩ :: BlsO (.slice (some ⟨bb, bo, none⟩) L.length c1) L :: []) from T6.out.tail.below B7.out)
                            clear HS6 HS7 T6 B7 hcell
                            go_wp2
                            exact ⟨⟨d + 1, by omega, by go_num, T7.out⟩, by simp [intOf]; omega⟩
                          · obtain rfl : d = 22 := by omega
                            have HS := Lib.hid hS
                            clear hS
                            go_wp2
                            exact ⟨⟨k + 1, b', (outL ls C x.off), (fl.set KI false), ss2, by go_num, by omega, HSS.out, MK.out, HS.out⟩, by simp [intOf]; omega⟩
              · have hL0 : L.length = 0 := by omega
                have B9 := Lib.hid HS.out.end
                clear h0
                go_wp2
                go_ret
                exact ⟨rfl, B9.out⟩
            · have dkn : decide ((k : Int) < (os.length : Int) + (ts.length : Int)) = false := decide_eq_false (by omega)
              have B9 := Lib.hid HS.out.end
              go_wp2
              go_ret
              exact ⟨rfl, B9.out⟩
end Go.Proofs.Ytjijniillehfoaa

/- What comes in, opened: a slice of bytes as a list; whatever else as a value that reads. -/
namespace Go.Own
open Go Go.RowKit Go.ChangeShapes Go.WideShapes
theorem open_bytes {H : Type} {enc : TypeId × Value → H} {P : Program} {W : World} {t e : TypeId} {a : Option Addr} {len cap : Nat} {d : DataW H} {p : List MemPlace}
    (ht : P.underlying t = some (.slice e)) (he : P.underlying e = some (.int .u8)) (hc : P.cellsOf e = 1)
    (h : DataW.Trod enc P W 0 (fun _ => true) true t (.slice a len cap) d p) : ∃ l, Bs W a len cap l := by
  obtain ⟨fuel, hf⟩ := h
  rcases open_ints ht he hc hf with ⟨hcs, _⟩ | ⟨x, l, c, zs, hcs, _, hl, hm, hz, _, hcell, hwz⟩
  · simp [Value.cells] at hcs
    obtain ⟨rfl, rfl, rfl⟩ := hcs
    exact ⟨[], Bs.nil W⟩
  · simp [Value.cells] at hcs
    obtain ⟨rfl, rfl, rfl⟩ := hcs
    refine ⟨(zs.take len).map fun z => UInt8.ofNat z.toNat, ?_, hl, by unfold maxLen at hm; omega, fun h => (by cases h), ?_⟩
    · have : zs.length = cap := by simpa using hz
      simp; omega
    · intro i v hv
      have hz' : zs.length = cap := by simpa using hz
      simp only [List.getElem?_map, List.getElem?_take] at hv
      split at hv
      · rename_i hi
        have hlt : i < zs.length := by omega
        rw [List.getElem?_eq_getElem hlt] at hv
        simp only [Option.map_some, Option.some.injEq] at hv
        have hw := hwz zs[i] (List.getElem_mem hlt)
        have hcl := hcell i hlt
        simp [Lit.wf, IntKind.min, IntKind.max, IntKind.bits, IntKind.signed] at hw
        have h0 := hcell 0 (by omega)
        obtain ⟨b, o, sp⟩ := x
        have hsp : sp = none := by
          cases sp with
          | none => rfl
          | some s => exfalso; revert h0; simp [World.cell?, Addr.add]; split <;> simp
        subst hsp
        refine ⟨b, o, rfl, ?_⟩
        have hadd : (⟨b, o, none⟩ : Addr).add i = ⟨b, o + i, none⟩ := by unfold Addr.add; split <;> simp_all
        rw [hadd] at hcl
        rw [hcl, ← hv, bv]
        simp [List.getD, hlt]
        omega
      · cases hv
end Go.Own
