/- Texts of the proof of 'AllocPlays', part 4: words on memory, contracts of functions, plain laws. No condition. -/
import Derived.Test.YtenbpbnffnodhaaMgAllocPlays1
import Derived.Test.YtenbpbnffnodhaaMgAllocPlays2
import Derived.Test.YtenbpbnffnodhaaMgAllocPlays3
import Derived.Shelf.Small.Bits
import Derived.Shelf.Strconv.Itoa0
import Derived.Test.YtenbpbnffnodhaaProg
set_option linter.unusedSimpArgs false
set_option linter.unusedVariables false
/- Blocks of an arena: the program's Walk. -/
namespace Go.Own
theorem walkFrom_step {b : List UInt8} {f O : Nat} (h : O < b.length) : walkFrom b (f + 1) O = match blkAt b O with | none => none | some x => (walkFrom b f (O + x.size)).map (x :: ·) := by
  rw [walkFrom, if_pos h]
  try (cases blkAt b O <;> rfl)
theorem walkFrom_end {b : List UInt8} {f O : Nat} (h : ¬ O < b.length) : walkFrom b f O = some [] := by
  cases f <;> rw [walkFrom, if_neg h]
end Go.Own
namespace Go.Proofs.Ytenbpbnffnodhaa
open Go Go.RowKit Go.Own
set_option linter.unusedVariables false
set_option maxRecDepth 100000
def errW (x : Option (List Blk)) : Value := match x with | none => .iface 183 (.int .i64 3) | some _ => .nilIface
section
variable {B : Nat} {w0 w : World} {l : List Ob} {i p : Nat} {A : Ar}
set_option maxHeartbeats 4000000 in
theorem blk_Walk (h : St B w0 w l) (hi : l[i]? = some (ArT p A)) :
    Calls Try.prog 62 #[arP p] w fun e w' => ∃ v, e = .returned (.tuple #[v, errW (walkB A.b)]) ∧ St B w0 w' (BlsO v ((walkB A.b).getD []) :: l) := by
  obtain ⟨hsm, hbs⟩ := ar_small h hi
  have hs0 : St B w0 w (BlsO (.slice none 0 0) [] :: l) := h.addOwn (Below.refl _ _) (World.ownsRow_nil _ _ _ _)
  have H0 := Lib.hid hs0; have HI := Lib.hid hi
  by_cases c1 : A.b.length < 184
  · have hn : walkB A.b = none := by unfold walkB; rw [if_pos c1]
    rw [hn]
    have KL := Lib.hid (ar_Len h hi)
    clear hs0 h hi hn
    go_enter Try.func62, Try.ntmps62
    go_wp2_with fail
    with_reducible refine KL.out.mono ?_
    rintro e w' ⟨rfl, rfl⟩
    go_wp2
    go_ret2
    exact ⟨_, rfl, H0.out⟩
  · obtain ⟨R, hR⟩ : ∃ R, R = walkB A.b := ⟨_, rfl⟩
    rw [← hR]
    have hR2 : R = (walkFrom A.b A.b.length 184).map ([] ++ ·) := by
      rw [hR]; unfold walkB; rw [if_neg c1]
      cases walkFrom A.b A.b.length 184 <;> rfl
    have KL := Lib.hid (ar_Len h hi)
    have HR := Lib.hid hR2
    have hc : 184 ≤ A.b.length := by omega
    clear hs0 h hi hR hR2 c1
    go_enter Try.func62, Try.ntmps62
    go_wp2_with fail
    with_reducible refine KL.out.mono ?_
    rintro e w' ⟨rfl, rfl⟩
    go_wp2
    clear KL
    go_loopw [4, 5] (fun va vo wr => ∃ (f O : Nat) (L : List Blk), vo = .int .i64 O ∧ 184 ≤ O ∧ St B w0 wr (BlsO va L :: l) ∧ R = (walkFrom A.b f O).map (L ++ ·) ∧ A.b.length ≤ f + O ∧ L.length ≤ O ∧ O ≤ 40000) (fun _ vo _ => 100000 - (intOf vo).toNat)
    case atStart => exact ⟨_, 184, [], rfl, Nat.le_refl _, H0.out, HR.out, by omega, Nat.zero_le _, by omega⟩
    case round =>
      obtain ⟨f, O, L, rfl, hO, hs, hw, hf, hL, hO4⟩ := hrel
      have kc := ar_Len hs (i := i + 1) HI.out
      by_cases hlt : O < A.b.length
      · obtain ⟨f', rfl⟩ : ∃ f', f = f' + 1 := ⟨f - 1, by omega⟩
        rw [walkFrom_step hlt] at hw
        have HS := Lib.hid hs
        obtain ⟨X, hX⟩ : ∃ X, X = blkAt A.b O := ⟨_, rfl⟩
        rw [← hX] at hw
        have kg := blk_Get hs (i := i + 1) HI.out (O : Int)
        rw [show blkI A.b (O : Int) = X by unfold blkI; rw [if_pos (Int.natCast_nonneg _), Int.toNat_natCast, hX]] at kg
        clear hs
        cases X with
        | none =>
          simp only [Option.map_none] at hw
          subst hw
          rw [show bkV none = .agg #[.int .i64 0, .int .i64 0, .bool false] from rfl, show errO none = .iface 183 (.int .i64 3) from rfl] at kg
          clear hX
          go_wp2_with fail
          with_reducible refine kc.mono ?_
          clear kc
          rintro e w' ⟨rfl, rfl⟩
          go_wp2_with fail
          with_reducible refine kg.mono ?_
          clear kg
          rintro e w3 ⟨rfl, h3⟩
          have H3 := Lib.hid h3
          clear h3
          go_wp2_with (first | (refine bk_alloc H3.out rfl rfl ?_; intro g4 w4 h4; have H4 := Lib.hid h4; clear h4) | (refine bk_store H4.out 0 rfl rfl _ _ rfl rfl 0 0 false rfl ?_; intro w5 h5; have H5 := Lib.hid h5; clear h5 H4))
          go_ret2
          have h6 := H5.out.tail.tail
          exact ⟨_, rfl, h6.addOwn (Below.refl _ _) (World.ownsRow_nil _ _ _ _)⟩
        | some x =>
          obtain ⟨x1, x2, x3, x4, x5, x6, x7, x8⟩ := blkAt_some hX.symm
          rw [show bkV (some x) = .agg #[.int .i64 x.off, .int .i64 x.size, .bool x.used] from rfl, show errO (some x) = .nilIface from rfl] at kg
          have HW := Lib.hid hw; have HX1 := Lib.hid x1
          have hL2 : L.length ≤ 1000000 := by omega
          clear hX hw x1 x3 x6 x8
          go_wp2_with fail
          with_reducible refine kc.mono ?_
          clear kc
          rintro e w' ⟨rfl, rfl⟩
          go_wp2_with fail
          with_reducible refine kg.mono ?_
          clear kg
          rintro e w3 ⟨rfl, h3⟩
          have H3 := Lib.hid h3
          clear h3
          go_wp2_with (first | (refine bk_alloc H3.out rfl rfl ?_; intro g4 w4 h4; have H4 := Lib.hid h4; clear h4) | (refine bk_store H4.out 0 rfl rfl _ _ rfl rfl (x.off : Int) (x.size : Int) x.used rfl ?_; intro w5 h5; have H5 := Lib.hid h5; clear h5 H4) | (refine bk_load H5.out 0 rfl rfl _ rfl rfl ?_) | (at_builtin; go_must (refine bls_app H5.out 1 rfl rfl (.tmp 25) (.tmp 27) rfl rfl x.off x.size x.used x rfl rfl rfl rfl hL2 ?_; intro v6 w6 h6; have H6 := Lib.hid h6; clear h6; have k1 : w6.cell? ⟨g4, 1, none⟩ = some (.int .i64 x.size) := (H6.out.row (i := 0) rfl).cell 1)))
          refine ⟨⟨f', O + x.size, L ++ [x], by go_num, by omega, H6.out.tail, ?_, by omega, by rw [List.length_append, List.length_singleton]; omega, by omega⟩, by simp [intOf]; omega⟩
          rw [HW.out]
          simp only [Option.map_map]
          congr 1
          funext y
          simp
      · rw [walkFrom_end hlt] at hw
        have HS := Lib.hid hs; have HW := Lib.hid hw
        clear hs hw
        go_wp2_with fail
        with_reducible refine kc.mono ?_
        clear kc
        rintro e w' ⟨rfl, rfl⟩
        go_wp2
        go_ret2
        refine ⟨_, by rw [HW.out]; rfl, ?_⟩
        rw [HW.out]
        simp only [Option.map_some, List.append_nil, Option.getD_some]
        exact HS.out
end
end Go.Proofs.Ytenbpbnffnodhaa

/- Blocks of bytes: the reference's calls. -/
namespace Go.Proofs.Ytenbpbnffnodhaa
open Go Go.RowKit Go.Own
set_option linter.unusedVariables false
set_option maxRecDepth 100000
section
variable {B : Nat} {w0 w : World} {l : List Ob}
end
end Go.Proofs.Ytenbpbnffnodhaa

/- Blocks of bytes: the reference's Ahead and Walk. -/
namespace Go.Proofs.Ytenbpbnffnodhaa
open Go Go.RowKit Go.Own
set_option linter.unusedVariables false
set_option maxRecDepth 100000
section
variable {B : Nat} {w0 w : World} {l : List Ob}
end
end Go.Proofs.Ytenbpbnffnodhaa

/- A region that draws its order: what its reads are to yield hangs on one condition on the world, which every heavy operation is to bring about anew. -/
namespace Go.Own
open Go Go.RowKit
def FlowS (P : Program) (ops : List Oper) (Q : Exit → Act → World → Prop) (S : World → Prop) (fuel : Nat) (listed : Array Bool) (a : Act) (W : World) : Prop :=
  PanicsSame Q ∧ (S W → wpAnyH P .any ops.toArray Q S fuel listed a W)
section
variable {P : Program} {ops : List Oper} {Q : Exit → Act → World → Prop} {S : World → Prop} {fuel : Nat} {listed : Array Bool} {a a' : Act} {W : World}
theorem flows_begin {id : Nat} {l : List Oper} (hm : P.follows .mixedOrders = true) (n : Nat) (hn : l.length = n) (hq : PanicsSame Q) (hS : S W.drew) (h : PanicsSame Q → FlowS P l Q S n (List.replicate n false).toArray a W.drew) : (Code.region id l.toArray true).wp P Q a W := by
  subst hn
  refine wp_region_held (S := S) hm ?_
  have := (h hq).2 hS
  simpa using this
theorem flows_take (i : Nat) {oi : Oper} {v : Value} (hp : PanicsSame Q) (hi : (ops.drop i).head? = some oi) (hc : (Region.noSelect ops.toArray && Region.free .any ops.toArray listed i && (Region.ready .any ops.toArray listed).contains i) = true)
    (hw : Region.wanted oi (yielded ops.toArray a.tmps) = true) (hrun : ∀ w, S w → (execOp a.eval oi).run P w = .ok (.value v) w) (ha : a.put oi.dst v = a')
    (h : FlowS P ops Q S fuel (listed.setIfInBounds i true) a' W) : FlowS P ops Q S (fuel + 1) listed a W := by
  subst ha
  simp only [Bool.and_eq_true] at hc
  exact ⟨hp, fun hS => wpAnyH_take (at_of hi) hc.1.1 hc.1.2 hc.2 (fun c a' w' q => hp c _ _ _ (put_defers _ _ _) q) (.inl ⟨hw, fun w' k' => hrun w' k'⟩) hS (h.2 hS)⟩
theorem flows_one (i : Nat) {oi : Oper} (hp : PanicsSame Q) (hi : (ops.drop i).head? = some oi) (hr : Region.ready .any ops.toArray listed = [i]) (hw : Region.wanted oi (yielded ops.toArray a.tmps) = true)
    (h : oi.wp P a W (fun a' w' => S w' ∧ FlowS P ops Q S fuel (listed.setIfInBounds i true) a' w') Q) : FlowS P ops Q S (fuel + 1) listed a W :=
  ⟨hp, fun _ => wpAnyH_all hr (by simp) fun j hj => by
    obtain rfl : j = i := by simpa using hj
    refine wpOp_mono (K := fun a' w' => S w' ∧ FlowS P ops Q S fuel (listed.setIfInBounds j true) a' w') (fun a' w' h' => ⟨h'.1, h'.2.2 h'.1⟩) ?_
    unfold wpOp
    simp only [at_of hi, hw, if_true]
    exact .inl h⟩
theorem flows_any (rs : List Nat) (hp : PanicsSame Q) (hr : Region.ready .any ops.toArray listed = rs) (hne : rs ≠ [])
    (h : ∀ i ∈ rs, ∃ oi, (ops.drop i).head? = some oi ∧ Region.wanted oi (yielded ops.toArray a.tmps) = true ∧
      oi.wp P a W (fun a' w' => S w' ∧ FlowS P ops Q S fuel (listed.setIfInBounds i true) a' w') Q) : FlowS P ops Q S (fuel + 1) listed a W :=
  ⟨hp, fun _ => wpAnyH_all hr hne fun j hj => by
    obtain ⟨oi, hi, hw, h⟩ := h j hj
    refine wpOp_mono (K := fun a' w' => S w' ∧ FlowS P ops Q S fuel (listed.setIfInBounds j true) a' w') (fun a' w' h' => ⟨h'.1, h'.2.2 h'.1⟩) ?_
    unfold wpOp
    simp only [at_of hi, hw, if_true]
    exact .inl h⟩
theorem flows_done (hp : PanicsSame Q) (hr : Region.ready .any ops.toArray listed = []) (h : Q .normal a W) : FlowS P ops Q S fuel listed a W :=
  ⟨hp, fun _ => wpAnyH_done hr h fuel⟩
end
end Go.Own

/- Blocks of an arena: the program's Set. -/
namespace Go.Own
open Go Go.RowKit
theorem St.apart {B : Nat} {w0 w : World} {l : List Ob} {i j g p : Nat} {e T e' : TypeId} {cs : List Value} {A : Ar} {v : Value} (h : St B w0 w l) (hi : l[i]? = some (RowO g e cs)) (hj : l[j]? = some (ArO T e' p A)) (hij : i < j) (ha : ArAt T e' w p A v) :
    ¬ v.ownBlock = some g := by
  obtain ⟨F, G, ⟨_, hF, _⟩, ⟨v', ha', hG, _⟩, hd⟩ := h.two hi hj hij
  have e1 := ha.row; have e2 := ha'.row
  unfold Row at e1 e2
  rw [e1] at e2
  injection e2 with e2; injection e2 with e2
  have e3 : v = v' := by simpa using e2
  subst e3
  intro hv
  exact hd g hF (hG g (.inr hv))
/-- Both tags are laid, if such a block may be there. -/
def setI (b : List UInt8) (o s : Int) (u : Bool) : Option (List UInt8) := if isSize s = true ∧ couldB b o s = true then some (setB b ⟨o.toNat, s.toNat, u⟩) else none
end Go.Own
namespace Go.Proofs.Ytenbpbnffnodhaa
open Go Go.RowKit Go.Own
set_option linter.unusedVariables false
set_option maxRecDepth 100000
def errS (x : Option (List UInt8)) : Value := match x with | none => .iface 183 (.int .i64 1) | some _ => .nilIface
section
variable {B : Nat} {w0 w : World} {l : List Ob} {i p : Nat} {A : Ar}
set_option maxHeartbeats 4000000 in
theorem blk_Set (h : St B w0 w l) (hi : l[i]? = some (ArT p A)) (o s : Int) (u : Bool) :
    Calls Try.prog 61 #[arP p, .agg #[.int .i64 o, .int .i64 s, .bool u]] w fun e w' => e = .returned (errS (setI A.b o s u)) ∧ St B w0 w' (l.set i (ArT p { A with b := (setI A.b o s u).getD A.b })) := by
  obtain ⟨hsm, hbs⟩ := ar_small h hi
  have H := Lib.hid h; have HI := Lib.hid hi
  clear h hi
  cases hz : isSize s with
  | false =>
    have hn : setI A.b o s u = none := by unfold setI; rw [if_neg (fun h => by rw [hz] at h; exact Bool.false_ne_true h.1)]
    have hS : (ArT p { A with b := (none : Option (List UInt8)).getD A.b }) = ArT p A := rfl
    rw [hn, hS, set_same HI.out]
    have ht : tagOf s u = 0 := tagOf_zero.2 hz
    clear hn hS hz
    go_enter Try.func61, Try.ntmps61
    go_wp2_with fail
    have h1 := H.out.addRow 77 [.int .i64 o, .int .i64 s, .bool u]
    generalize w.alloc (Obj.cells #[Value.int IntKind.i64 o, Value.int IntKind.i64 s, Value.bool u] 77 (0, 0)) = w1 at h1 ⊢
    generalize w.heap.size = g at h1 ⊢
    have H1 := Lib.hid h1
    clear h1
    have kc := tag_Pack w1 s u
    rw [ht] at kc
    with_reducible refine kc.mono ?_
    clear kc ht
    rintro e w' ⟨rfl, rfl⟩
    go_wp2
    go_ret
    exact ⟨rfl, H1.out.tail⟩
  | true =>
    have hx := tagOf_rng s u
    have hx0 : tagOf s u ≠ 0 := fun h => by rw [tagOf_zero.1 h] at hz; cases hz
    obtain ⟨X, hX⟩ : ∃ X : Nat, tagOf s u = X := ⟨(tagOf s u).toNat, by omega⟩
    have hX0 : ((X : Int) == 0) = false := by rw [beq_eq_false_iff_ne]; omega
    have hX1 : X ≤ 16385 := by omega
    have hzz := (isSize_iff s).1 hz
    cases hc : couldB A.b o s with
    | false =>
      have hn : setI A.b o s u = none := by unfold setI; rw [if_neg (fun h => by rw [hc] at h; exact Bool.false_ne_true h.2)]
      have hS : (ArT p { A with b := (none : Option (List UInt8)).getD A.b }) = ArT p A := rfl
      rw [hn, hS, set_same HI.out]
      clear hn hS hz hzz hx hx0
      go_enter Try.func61, Try.ntmps61
      go_wp2_with fail
      have h1 := H.out.addRow 77 [.int .i64 o, .int .i64 s, .bool u]
      generalize w.alloc (Obj.cells #[Value.int IntKind.i64 o, Value.int IntKind.i64 s, Value.bool u] 77 (0, 0)) = w1 at h1 ⊢
      generalize w.heap.size = g at h1 ⊢
      have H1 := Lib.hid h1
      clear h1
      have kc := tag_Pack w1 s u
      rw [hX] at kc
      with_reducible refine kc.mono ?_
      clear kc hX
      rintro e w' ⟨rfl, rfl⟩
      have c0 : w1.cell? ⟨g, 0, none⟩ = some (.int .i64 o) := (H1.out.row (i := 0) rfl).cell 0
      have c1 : w1.cell? ⟨g, 1, none⟩ = some (.int .i64 s) := (H1.out.row (i := 0) rfl).cell 1
      have kc := blk_fits H1.out (i := i + 1) HI.out o s
      rw [hc] at kc
      go_wp2_with fail
      with_reducible refine kc.mono ?_
      clear kc hc
      rintro e w' ⟨rfl, rfl⟩
      go_wp2
      go_ret
      exact ⟨rfl, H1.out.tail⟩
    | true =>
      obtain ⟨c1, c2, c3, c4⟩ := couldB_iff.1 hc
      obtain ⟨O, ho⟩ := Int.eq_ofNat_of_zero_le (show 0 ≤ o by omega)
      obtain ⟨S, hs⟩ := Int.eq_ofNat_of_zero_le (show 0 ≤ s by omega)
      have hOS : O + S ≤ A.b.length := by omega
      have hn : setI A.b o s u = some (layAt (layAt A.b O X) (O + S - 8) X) := by
        unfold setI setB tagB
        rw [if_pos ⟨hz, hc⟩]
        simp only
        rw [show o.toNat = O by omega, show s.toNat = S by omega, ← hs, hX, Int.toNat_natCast]
      rw [hn]
      simp only [Option.getD_some]
      rw [show errS (some (layAt (layAt A.b O X) (O + S - 8) X)) = .nilIface from rfl]
      have ho1 : 184 ≤ o := by omega
      have ho2 : o ≤ 16384 := by omega
      have hs1 : 32 ≤ s := by omega
      have hs2 : s ≤ 16384 := by omega
      have HOS := Lib.hid (And.intro ho (And.intro hs hOS))
      have HC := Lib.hid hc
      clear hn hz hzz hx hx0 c1 c2 c3 c4 hOS ho hs
      go_enter Try.func61, Try.ntmps61
      go_wp2_with fail
      have h1 := H.out.addRow 77 [.int .i64 o, .int .i64 s, .bool u]
      generalize w.alloc (Obj.cells #[Value.int IntKind.i64 o, Value.int IntKind.i64 s, Value.bool u] 77 (0, 0)) = w1 at h1 ⊢
      generalize w.heap.size = g at h1 ⊢
      have H1 := Lib.hid h1
      clear h1
      have kc := tag_Pack w1 s u
      rw [hX] at kc
      with_reducible refine kc.mono ?_
      clear kc hX
      rintro e w' ⟨rfl, rfl⟩
      have c0 : w1.cell? ⟨g, 0, none⟩ = some (.int .i64 o) := (H1.out.row (i := 0) rfl).cell 0
      have c1 : w1.cell? ⟨g, 1, none⟩ = some (.int .i64 s) := (H1.out.row (i := 0) rfl).cell 1
      have kc := blk_fits H1.out (i := i + 1) HI.out o s
      rw [hc] at kc
      go_wp2_with fail
      with_reducible refine kc.mono ?_
      clear kc hc
      rintro e w' ⟨rfl, rfl⟩
      go_wp2
      clear c0 c1
      obtain ⟨v, hva, hto⟩ := H1.out.drew.arTo (i := i + 1) HI.out
      have HNE := Lib.hid (H1.out.drew.apart (i := 0) (j := i + 1) rfl HI.out (by omega) hva)
      have HR := Lib.hid (H1.out.drew.row (i := 0) rfl)
      have HV := Lib.hid hva; have HTO := Lib.hid hto
      have u0 : IntKind.u64.wrap o = o := IntWalk.u64_in _ (by omega)
      have u1 : IntKind.u64.wrap ((A.base : Int) + o) = (A.base : Int) + o := IntWalk.u64_in _ (by omega)
      clear hva hto
      refine flowe_begin (F := fun k => v.ownBlock = some k) hmixed 10 rfl (by repeat (first | with_reducible refine ps_then ?_ | with_reducible refine ps_block ?_ | with_reducible exact ps_body | refine ps_then ?_ | refine ps_block ?_ | exact ps_body)) (fun hps => ?_)
      simp only [List.replicate]
      have kk := (Keep.refl (fun k => v.ownBlock = some k) (w1)).drew
      refine flowe_take 0 (v := ?_) (a' := ?_) hps rfl (by kernel_rfl) rfl ?_ ?_ ?_
      rotate_left 2
      · intro w' hk; go_simp; try rfl
      · simp only [Act.put, List.setIfInBounds_toArray, List.set_cons_succ, List.set_cons_zero]; try rfl
      refine flowe_take 1 (v := ?_) (a' := ?_) hps rfl (by kernel_rfl) rfl ?_ ?_ ?_
      rotate_left 2
      · intro w' hk; go_simp; try rfl
      · simp only [Act.put, List.setIfInBounds_toArray, List.set_cons_succ, List.set_cons_zero]; try rfl
      refine flowe_take 3 (v := ?_) (a' := ?_) hps rfl (by kernel_rfl) rfl ?_ ?_ ?_
      rotate_left 2
      · intro w' hk; go_simp; try rfl
      · simp only [Act.put, List.setIfInBounds_toArray, List.set_cons_succ, List.set_cons_zero]; try rfl
      refine flowe_take 4 (v := ?_) (a' := ?_) hps rfl (by kernel_rfl) rfl ?_ ?_ ?_
      rotate_left 2
      · intro w' hk; have hr := (HR.out.keep hk HNE.out).cell 0; simp only [List.getElem?_cons_succ, List.getElem?_cons_zero] at hr; go_simp; try rfl
      · simp only [Act.put, List.setIfInBounds_toArray, List.set_cons_succ, List.set_cons_zero]; try rfl
      refine flowe_take 5 (v := ?_) (a' := ?_) hps rfl (by kernel_rfl) rfl ?_ ?_ ?_
      rotate_left 2
      · intro w' hk; go_simp; try rfl
      · simp only [Act.put, List.setIfInBounds_toArray, List.set_cons_succ, List.set_cons_zero]; try rfl
      refine flowe_take 7 (v := ?_) (a' := ?_) hps rfl (by kernel_rfl) rfl ?_ ?_ ?_
      rotate_left 2
      · intro w' hk; go_simp; try rfl
      · simp only [Act.put, List.setIfInBounds_toArray, List.set_cons_succ, List.set_cons_zero]; try rfl
      refine flowe_one 2 hps rfl (by kernel_rfl) rfl (wp_next (fun K hK => ?_))
      go_simp
      have kc := arena_Base _ p A v HV.out
      with_reducible refine kc.mono ?_
      clear kc
      rintro e w' ⟨rfl, rfl⟩
      refine hK _ _ (flow_step kk ?_ ?_)
      · first | exact kp | exact Keep.refl _ _ | exact (Keep.refl _ _).alloc _
      clear kk hK; try clear kp
      intro kk
      refine flowe_take 6 (v := ?_) (a' := ?_) hps rfl (by kernel_rfl) rfl ?_ ?_ ?_
      rotate_left 2
      · intro w' hk; go_simp; try rfl
      · simp only [Act.put, List.setIfInBounds_toArray, List.set_cons_succ, List.set_cons_zero]; try rfl
      refine flowe_one 8 hps rfl (by kernel_rfl) rfl (wp_next (fun K hK => ?_))
      go_simp
      have kc := arena_SetWord_ok _ p A v HV.out ((A.base : Int) + o) O (by have := HOS.out; omega) (X : Int) X rfl (by omega) (by have := HOS.out; omega)
      with_reducible refine kc.mono ?_
      clear kc
      rintro e w2 ⟨rfl, hv2, k2⟩
      have HV2 := Lib.hid hv2
      have h2 := HTO.out _ _ v hv2 (k2.mono fun _ _ h => .inr h) (.inl rfl)
      rw [List.set_cons_succ] at h2
      have H2 := Lib.hid h2
      have kp := k2
      clear hv2 k2 h2
      refine hK _ _ (flow_step kk ?_ ?_)
      · first | exact kp | exact Keep.refl _ _ | exact (Keep.refl _ _).alloc _
      clear kk hK; try clear kp
      intro kk
      refine flowe_take 9 (v := ?_) (a' := ?_) hps rfl (by kernel_rfl) rfl ?_ ?_ ?_
      rotate_left 2
      · intro w' hk; go_simp; try rfl
      · simp only [Act.put, List.setIfInBounds_toArray, List.set_cons_succ, List.set_cons_zero]; try rfl
      refine flowe_done hps (by kernel_rfl) ?_
      clear kk HR HV HTO u0 u1 HNE HV2
      go_wp2
      have hil : i < l.length := (List.getElem?_eq_some_iff.1 HI.out).1
      have hi2 : (RowO g 77 [.int .i64 o, .int .i64 s, .bool u] :: l.set i (ArT p { A with b := layAt A.b O X }))[i + 1]? = some (ArT p { A with b := layAt A.b O X }) := by
        rw [List.getElem?_cons_succ]; exact List.getElem?_set_self hil
      have h2' : St B w0 w2 (RowO g 77 [.int .i64 o, .int .i64 s, .bool u] :: l.set i (ArT p { A with b := layAt A.b O X })) := H2.out
      obtain ⟨v', hva, hto⟩ := h2'.drew.arTo (i := i + 1) hi2
      have HNE := Lib.hid (h2'.drew.apart (i := 0) (j := i + 1) rfl hi2 (by omega) hva)
      have HR := Lib.hid (h2'.drew.row (i := 0) rfl)
      have HV := Lib.hid hva; have HTO := Lib.hid hto
      have hll : (layAt A.b O X).length = A.b.length := layAt_length A.b O X (by have := HOS.out; omega)
      have HLL := Lib.hid hll
      have u0 : IntKind.i64.wrap (o + s) = o + s := IntWalk.i64_in _ (by omega)
      have u1 : IntKind.i64.wrap (o + s - 8) = o + s - 8 := IntWalk.i64_in _ (by omega)
      have u2 : IntKind.u64.wrap (o + s - 8) = o + s - 8 := IntWalk.u64_in _ (by omega)
      have u3 : IntKind.u64.wrap ((A.base : Int) + (o + s - 8)) = (A.base : Int) + (o + s - 8) := IntWalk.u64_in _ (by omega)
      clear hva hto hi2 h2' hll hil
      refine flowe_begin (F := fun k => v'.ownBlock = some k) hmixed 14 rfl (by repeat (first | with_reducible refine ps_then ?_ | with_reducible refine ps_block ?_ | with_reducible exact ps_body | refine ps_then ?_ | refine ps_block ?_ | exact ps_body)) (fun hps => ?_)
      simp only [List.replicate]
      have kk := (Keep.refl (fun k => v'.ownBlock = some k) (w2)).drew
      refine flowe_take 0 (v := ?_) (a' := ?_) hps rfl (by kernel_rfl) rfl ?_ ?_ ?_
      rotate_left 2
      · intro w' hk; go_simp; try rfl
      · simp only [Act.put, List.setIfInBounds_toArray, List.set_cons_succ, List.set_cons_zero]; try rfl
      refine flowe_take 1 (v := ?_) (a' := ?_) hps rfl (by kernel_rfl) rfl ?_ ?_ ?_
      rotate_left 2
      · intro w' hk; go_simp; try rfl
      · simp only [Act.put, List.setIfInBounds_toArray, List.set_cons_succ, List.set_cons_zero]; try rfl
      refine flowe_take 3 (v := ?_) (a' := ?_) hps rfl (by kernel_rfl) rfl ?_ ?_ ?_
      rotate_left 2
      · intro w' hk; go_simp; try rfl
      · simp only [Act.put, List.setIfInBounds_toArray, List.set_cons_succ, List.set_cons_zero]; try rfl
      refine flowe_take 4 (v := ?_) (a' := ?_) hps rfl (by kernel_rfl) rfl ?_ ?_ ?_
      rotate_left 2
      · intro w' hk; have hr := (HR.out.keep hk HNE.out).cell 0; simp only [List.getElem?_cons_succ, List.getElem?_cons_zero] at hr; go_simp; try rfl
      · simp only [Act.put, List.setIfInBounds_toArray, List.set_cons_succ, List.set_cons_zero]; try rfl
      refine flowe_take 5 (v := ?_) (a' := ?_) hps rfl (by kernel_rfl) rfl ?_ ?_ ?_
      rotate_left 2
      · intro w' hk; go_simp; try rfl
      · simp only [Act.put, List.setIfInBounds_toArray, List.set_cons_succ, List.set_cons_zero]; try rfl
      refine flowe_take 6 (v := ?_) (a' := ?_) hps rfl (by kernel_rfl) rfl ?_ ?_ ?_
      rotate_left 2
      · intro w' hk; have hr := (HR.out.keep hk HNE.out).cell 1; simp only [List.getElem?_cons_succ, List.getElem?_cons_zero] at hr; go_simp; try rfl
      · simp only [Act.put, List.setIfInBounds_toArray, List.set_cons_succ, List.set_cons_zero]; try rfl
      refine flowe_take 7 (v := ?_) (a' := ?_) hps rfl (by kernel_rfl) rfl ?_ ?_ ?_
      rotate_left 2
      · intro w' hk; go_simp; try rfl
      · simp only [Act.put, List.setIfInBounds_toArray, List.set_cons_succ, List.set_cons_zero]; try rfl
      refine flowe_take 8 (v := ?_) (a' := ?_) hps rfl (by kernel_rfl) rfl ?_ ?_ ?_
      rotate_left 2
      · intro w' hk; go_simp; try rfl
      · simp only [Act.put, List.setIfInBounds_toArray, List.set_cons_succ, List.set_cons_zero]; try rfl
      refine flowe_take 9 (v := ?_) (a' := ?_) hps rfl (by kernel_rfl) rfl ?_ ?_ ?_
      rotate_left 2
      · intro w' hk; go_simp; try rfl
      · simp only [Act.put, List.setIfInBounds_toArray, List.set_cons_succ, List.set_cons_zero]; try rfl
      refine flowe_take 11 (v := ?_) (a' := ?_) hps rfl (by kernel_rfl) rfl ?_ ?_ ?_
      rotate_left 2
      · intro w' hk; go_simp; try rfl
      · simp only [Act.put, List.setIfInBounds_toArray, List.set_cons_succ, List.set_cons_zero]; try rfl
      refine flowe_one 2 hps rfl (by kernel_rfl) rfl (wp_next (fun K hK => ?_))
      go_simp
      have kc := arena_Base _ p { A with b := layAt A.b O X } v' HV.out
      with_reducible refine kc.mono ?_
      clear kc
      rintro e w' ⟨rfl, rfl⟩
      refine hK _ _ (flow_step kk ?_ ?_)
      · first | exact kp | exact Keep.refl _ _ | exact (Keep.refl _ _).alloc _
      clear kk hK; try clear kp
      intro kk
      refine flowe_take 10 (v := ?_) (a' := ?_) hps rfl (by kernel_rfl) rfl ?_ ?_ ?_
      rotate_left 2
      · intro w' hk; go_simp; try rfl
      · simp only [Act.put, List.setIfInBounds_toArray, List.set_cons_succ, List.set_cons_zero]; try rfl
      refine flowe_one 12 hps rfl (by kernel_rfl) rfl (wp_next (fun K hK => ?_))
      go_simp
      have kc := arena_SetWord_ok _ p { A with b := layAt A.b O X } v' HV.out ((A.base : Int) + (o + s - 8)) (O + S - 8) (by have := HOS.out; show _ = (A.base : Int) + _; omega) (X : Int) X rfl (by omega) (by have := HOS.out; show _ ≤ (layAt A.b O X).length; rw [HLL.out]; omega)
      with_reducible refine kc.mono ?_
      clear kc
      rintro e w3 ⟨rfl, hv3, k3⟩
      have h3 := HTO.out _ _ v' hv3 (k3.mono fun _ _ h => .inr h) (.inl rfl)
      rw [List.set_cons_succ, List.set_set] at h3
      have H3 := Lib.hid h3
      have kp := k3
      clear hv3 k3 h3
      refine hK _ _ (flow_step kk ?_ ?_)
      · first | exact kp | exact Keep.refl _ _ | exact (Keep.refl _ _).alloc _
      clear kk hK; try clear kp
      intro kk
      refine flowe_take 13 (v := ?_) (a' := ?_) hps rfl (by kernel_rfl) rfl ?_ ?_ ?_
      rotate_left 2
      · intro w' hk; go_simp; try rfl
      · simp only [Act.put, List.setIfInBounds_toArray, List.set_cons_succ, List.set_cons_zero]; try rfl
      refine flowe_done hps (by kernel_rfl) ?_
      clear kk HR HV HTO u0 u1 u2 u3 HNE
      go_wp2
      go_ret
      exact ⟨rfl, H3.out.tail⟩
end
end Go.Proofs.Ytenbpbnffnodhaa

/- Blocks of bytes: the reference's Lay and Set. -/
namespace Go.Own
open Go Go.RowKit
theorem St.bsV {B : Nat} {w0 w : World} {l : List Ob} {i : Nat} {e : TypeId} {a : Option Addr} {n c m : Nat} {b : List UInt8} (h : St B w0 w l) (hi : l[i]? = some (OwO e 1 (.slice a n c) m (b.map bv))) : Bs w a n c b := by
  obtain ⟨_, _, e, hb⟩ := h.bsOwn hi
  cases e; exact hb
end Go.Own
namespace Go.Proofs.Ytenbpbnffnodhaa
open Go Go.RowKit Go.Own
set_option linter.unusedVariables false
set_option maxRecDepth 100000
section
variable {B : Nat} {w0 w : World} {l : List Ob}
end
end Go.Proofs.Ytenbpbnffnodhaa

/- Blocks of bytes: the reference's Set. -/
namespace Go.Own
open Go Go.RowKit
end Go.Own
namespace Go.Proofs.Ytenbpbnffnodhaa
open Go Go.RowKit Go.Own
set_option linter.unusedVariables false
set_option maxRecDepth 100000
section
variable {B : Nat} {w0 w : World} {l : List Ob}
end
end Go.Proofs.Ytenbpbnffnodhaa

/- Contracts of the library (bits.Len ..), laid by the kit's tool in this dump's own numbers. -/
namespace Go.Proofs
open Go.Shelf
def Try.lays125_ren : Go.Shelf.Ren := ⟨fun | 125 => 228 | 128 => 237 | 129 => 238 | n => n, fun | 46 => 235 | 3 => 3 | 51 => 110 | 53 => 49 | 4 => 4 | 5 => 5 | 9 => 9 | n => n, fun | n => n⟩
theorem Try.lays125 : Go.Proofs.Lays.n125 Try.prog Try.lays125_ren := {
  mixed := by kernel_rfl
  f125 := Try.func228.trans (congrArg some (by kernel_rfl))
  f128 := Try.func237.trans (congrArg some (by kernel_rfl))
  f129 := Try.func238.trans (congrArg some (by kernel_rfl))
  t3 := Try.underlying3
  a3 := Try.isAgg3
  z3 := Try.sizeOf3
  v3 := Try.zeroValue3
  t4 := Try.underlying4
  a4 := Try.isAgg4
  z4 := Try.sizeOf4
  v4 := Try.zeroValue4
  t5 := Try.underlying5
  a5 := Try.isAgg5
  z5 := Try.sizeOf5
  v5 := Try.zeroValue5
  t9 := Try.underlying9
  a9 := Try.isAgg9
  z9 := Try.sizeOf9
  v9 := Try.zeroValue9
  t46 := Try.underlying235
  a46 := Try.isAgg235
  z46 := Try.sizeOf235
  v46 := Try.zeroValue235
  t51 := Try.underlying110
  a51 := Try.isAgg110
  z51 := Try.sizeOf110
  v51 := Try.zeroValue110
  t53 := Try.underlying49
  a53 := Try.isAgg49
  z53 := Try.sizeOf49
  v53 := Try.zeroValue49 }
theorem Try.bits_Len (x : Int) (w : World) (h0 : 0 ≤ x) (h1 : x ≤ 18446744073709551615) :
    Calls Try.prog 228 #[.int .u64 x] w fun e w' => e = .returned (.int .i64 (Lib.bitLen x.toNat)) ∧ w' = w := Any.bits_Len Try.lays125 x w h0 h1
end Go.Proofs

/- Classes of sizes: the program's and the reference's. -/
namespace Go.Proofs.Ytenbpbnffnodhaa
open Go Go.RowKit Go.Own
set_option linter.unusedVariables false
theorem bitLen_of {x k : Nat} (h1 : 2 ^ k ≤ x) (h2 : x < 2 ^ (k + 1)) (hk : k < 64) : Lib.bitLen x = k + 1 := by
  unfold Lib.bitLen
  have aux : ∀ (f k x : Nat), 2 ^ k ≤ x → x < 2 ^ (k + 1) → k < f → Lib.bitLenAux f x = k + 1 := by
    intro f
    induction f with
    | zero => intro k x _ _ h; omega
    | succ f ih =>
      intro k x h1 h2 hk
      have hp : 0 < 2 ^ k := Nat.pow_pos (by decide)
      unfold Lib.bitLenAux
      rw [if_neg (by omega)]
      cases k with
      | zero =>
        have : x = 1 := by simp at h1 h2; omega
        subst this
        cases f <;> simp [Lib.bitLenAux]
      | succ k =>
        rw [Nat.pow_succ] at h1 h2
        rw [ih k (x / 2) (by omega) (by omega) (by omega)]; omega
  exact aux 64 k x h1 h2 hk
theorem len_cls {s : Int} (h : isSize s = true) (h2 : 256 < s) : cls s = 6 + (Lib.bitLen s.toNat : Nat) := by
  refine cls_len h h2 _ ?_
  have hs := (isSize_iff s).1 h
  have key : ∀ k : Nat, k < 64 → (2 : Int) ^ k ≤ s → s < (2 : Int) ^ (k + 1) → ((Lib.bitLen s.toNat : Nat) : Int) = k + 1 := by
    intro k hk a b
    have e1 : ((2 : Int) ^ k) = ((2 ^ k : Nat) : Int) := by simp
    have e2 : ((2 : Int) ^ (k + 1)) = ((2 ^ (k + 1) : Nat) : Int) := by simp
    rw [e1] at a; rw [e2] at b
    rw [bitLen_of (k := k) (by omega) (by omega) hk]; simp
  by_cases a1 : s < 512
  · rw [if_pos a1, key 8 (by decide) (by omega) (by omega)]; rfl
  by_cases a2 : s < 1024
  · rw [if_neg a1, if_pos a2, key 9 (by decide) (by omega) (by omega)]; rfl
  by_cases a3 : s < 2048
  · rw [if_neg a1, if_neg a2, if_pos a3, key 10 (by decide) (by omega) (by omega)]; rfl
  by_cases a4 : s < 4096
  · rw [if_neg a1, if_neg a2, if_neg a3, if_pos a4, key 11 (by decide) (by omega) (by omega)]; rfl
  by_cases a5 : s < 8192
  · rw [if_neg a1, if_neg a2, if_neg a3, if_neg a4, if_pos a5, key 12 (by decide) (by omega) (by omega)]; rfl
  by_cases a6 : s < 16384
  · rw [if_neg a1, if_neg a2, if_neg a3, if_neg a4, if_neg a5, if_pos a6, key 13 (by decide) (by omega) (by omega)]; rfl
  · rw [if_neg a1, if_neg a2, if_neg a3, if_neg a4, if_neg a5, if_neg a6, key 14 (by decide) (by omega) (by omega)]; rfl
theorem class_Class (w : World) (s : Int) (h0 : -9223372036854775808 ≤ s) (h1 : s ≤ 9223372036854775807) :
    Calls Try.prog 192 #[.int .i64 s] w fun e w' => e = .returned (.int .i64 (cls s)) ∧ w = w' := by
  by_cases h : isSize s = true
  · obtain ⟨s1, s2, s3⟩ := (isSize_iff s).1 h
    have hne : (s % 16 != 0) = false := by rw [bne_eq_false_iff_eq]; exact s3
    by_cases hs : s ≤ 256
    · have ec : cls s = s / 16 - 2 := by unfold cls; rw [h]; simp only [if_true]; rw [if_pos hs]
      have EC := Lib.hid ec
      clear ec h s3
      go_enter Try.func192, Try.ntmps192
      go_wp2
      go_ret
      exact ⟨rI EC.out.symm, rfl⟩
    · have ec := len_cls h (by omega)
      have k := Try.bits_Len s w (by omega) (by omega)
      have hb : (Lib.bitLen s.toNat : Nat) ≤ 64 := by
        have := ec; unfold cls at this; rw [h] at this; simp only [if_true] at this
        repeat (split at this <;> try omega)
      have EC := Lib.hid ec; have K := Lib.hid k
      clear ec k h s3
      go_enter Try.func192, Try.ntmps192
      go_wp2_with fail
      refine K.out.mono ?_
      rintro e w' ⟨rfl, rfl⟩
      go_wp2
      go_ret
      exact ⟨rI EC.out.symm, rfl⟩
  · have ec : cls s = -1 := by unfold cls; rw [if_neg h]
    have hn : s < 32 ∨ 16384 < s ∨ (32 ≤ s ∧ s ≤ 16384 ∧ (s % 16 != 0) = true) := by
      have h4 : ¬ (32 ≤ s ∧ s ≤ 16384 ∧ s % 16 = 0) := fun hh => h (isSize_yes hh)
      rw [bne_iff_ne]; omega
    have EC := Lib.hid ec
    clear ec h
    rcases hn with hn | hn | ⟨a1, a2, a3⟩
    all_goals
      go_enter Try.func192, Try.ntmps192
      go_wp2
      go_ret
      exact ⟨rI EC.out.symm, rfl⟩

/-- What the reference's loop holds. -/
def ClsAt (s c t : Int) : Prop :=
  (c = 15 ∧ t = 512 ∧ 256 < s) ∨ (c = 16 ∧ t = 1024 ∧ 512 ≤ s) ∨ (c = 17 ∧ t = 2048 ∧ 1024 ≤ s) ∨ (c = 18 ∧ t = 4096 ∧ 2048 ≤ s) ∨ (c = 19 ∧ t = 8192 ∧ 4096 ≤ s) ∨ (c = 20 ∧ t = 16384 ∧ 8192 ≤ s) ∨ (c = 21 ∧ t = 32768 ∧ 16384 ≤ s)
theorem ClsAt.next {s c t : Int} (h : ClsAt s c t) (ht : t ≤ s) (hs : s ≤ 16384) : ClsAt s (c + 1) (2 * t) ∧ 512 ≤ t ∧ t ≤ 16384 ∧ 15 ≤ c ∧ c ≤ 20 := by
  rcases h with ⟨rfl, rfl, h⟩ | ⟨rfl, rfl, h⟩ | ⟨rfl, rfl, h⟩ | ⟨rfl, rfl, h⟩ | ⟨rfl, rfl, h⟩ | ⟨rfl, rfl, h⟩ | ⟨rfl, rfl, h⟩
  · exact ⟨.inr (.inl ⟨rfl, rfl, ht⟩), by omega⟩
  · exact ⟨.inr (.inr (.inl ⟨rfl, rfl, ht⟩)), by omega⟩
  · exact ⟨.inr (.inr (.inr (.inl ⟨rfl, rfl, ht⟩))), by omega⟩
  · exact ⟨.inr (.inr (.inr (.inr (.inl ⟨rfl, rfl, ht⟩)))), by omega⟩
  · exact ⟨.inr (.inr (.inr (.inr (.inr (.inl ⟨rfl, rfl, ht⟩))))), by omega⟩
  · exact ⟨.inr (.inr (.inr (.inr (.inr (.inr ⟨rfl, rfl, ht⟩))))), by omega⟩
  · omega
theorem ClsAt.done {s c t : Int} (h : ClsAt s c t) (ht : s < t) (h0 : isSize s = true) : cls s = c := by
  unfold cls
  rw [h0]
  simp only [if_true]
  have := (isSize_iff s).1 h0
  rcases h with ⟨rfl, rfl, h⟩ | ⟨rfl, rfl, h⟩ | ⟨rfl, rfl, h⟩ | ⟨rfl, rfl, h⟩ | ⟨rfl, rfl, h⟩ | ⟨rfl, rfl, h⟩ | ⟨rfl, rfl, h⟩
  all_goals (rw [if_neg (by omega)]; repeat (first | rw [if_pos (by omega)] | rw [if_neg (by omega)]))
set_option maxHeartbeats 1000000 in
theorem ref_Class (w : World) (s : Int) (h0 : -9223372036854775808 ≤ s) (h1 : s ≤ 9223372036854775807) :
    Calls Try.prog 87 #[.int .i64 s] w fun e w' => e = .returned (.int .i64 (cls s)) ∧ w = w' := by
  have k := ref_IsSize w s
  cases h : isSize s with
  | true =>
    rw [h] at k
    obtain ⟨s1, s2, s3⟩ := (isSize_iff s).1 h
    by_cases hs : s ≤ 256
    · have ec : cls s = s / 16 - 2 := by unfold cls; rw [h]; simp only [if_true]; rw [if_pos hs]
      have EC := Lib.hid ec; have K := Lib.hid k
      clear ec h s3 k
      go_enter Try.func87, Try.ntmps87
      go_wp2_with fail
      with_reducible refine K.out.mono ?_
      rintro e w' ⟨rfl, rfl⟩
      go_wp2
      go_ret
      exact ⟨rI EC.out.symm, rfl⟩
    · have HS := Lib.hid h; have K := Lib.hid k
      clear h s3 k
      go_enter Try.func87, Try.ntmps87
      go_wp2_with fail
      with_reducible refine K.out.mono ?_
      rintro e w' ⟨rfl, rfl⟩
      go_wp2
      go_loop [4, 5] (fun v x => ∃ c t : Int, v = .int .i64 c ∧ x = .int .i64 t ∧ ClsAt s c t) (fun v _ => (21 - intOf v).toNat)
      case atStart => exact ⟨15, 512, rfl, rfl, .inl ⟨rfl, rfl, by omega⟩⟩
      case round =>
        obtain ⟨c, t, rfl, rfl, hc⟩ := hrel
        by_cases hlt : t ≤ s
        · obtain ⟨n1, n2, n3, n4, n5⟩ := hc.next hlt s2
          clear hc
          go_wp2
          exact ⟨⟨c + 1, 2 * t, rfl, rfl, n1⟩, by simp [intOf]; omega⟩
        · have e := hc.done (by omega) HS.out
          have E := Lib.hid e
          clear e hc
          go_wp2
          go_ret
          exact ⟨rI E.out.symm, rfl⟩
  | false =>
    rw [h] at k
    have ec : cls s = -1 := by unfold cls; rw [h]; rfl
    have EC := Lib.hid ec; have K := Lib.hid k
    clear ec h k
    go_enter Try.func87, Try.ntmps87
    go_wp2_with fail
    with_reducible refine K.out.mono ?_
    rintro e w' ⟨rfl, rfl⟩
    go_wp2
    go_ret
    exact ⟨rI EC.out.symm, rfl⟩
end Go.Proofs.Ytenbpbnffnodhaa

/- Blocks that tile an arena's bytes, and the lists of its free ones: what the list operations do. No program. -/
namespace Go.Own
/-- Only words of T have turned. -/
structure Touch (T : Nat → Prop) (b b' : List UInt8) : Prop where
  len : b'.length = b.length
  same : ∀ o n, (∀ t, T t → o + n ≤ t ∨ t + 8 ≤ o) → (b'.drop o).take n = (b.drop o).take n
theorem Touch.refl (T : Nat → Prop) (b : List UInt8) : Touch T b b := ⟨rfl, fun _ _ _ => rfl⟩
theorem Touch.trans {T : Nat → Prop} {a b c : List UInt8} (h : Touch T a b) (k : Touch T b c) : Touch T a c :=
  ⟨k.len.trans h.len, fun o n ht => (k.same o n ht).trans (h.same o n ht)⟩
theorem Touch.mono {T T' : Nat → Prop} {a b : List UInt8} (h : Touch T a b) (ht : ∀ t, T t → T' t) : Touch T' a b :=
  ⟨h.len, fun o n hn => h.same o n fun t h => hn t (ht t h)⟩
theorem Touch.lay {T : Nat → Prop} (b : List UInt8) (o v : Nat) (h : o + 8 ≤ b.length) (ht : T o) : Touch T b (layAt b o v) :=
  ⟨layAt_length b o v h, fun p n hn => by
    unfold layAt
    exact lay_far (by rw [low_length]; exact h) p n (by rw [low_length]; exact hn o ht)⟩
theorem Touch.num {T : Nat → Prop} {b b' : List UInt8} (h : Touch T b b') (o : Nat) (ho : ∀ t, T t → o + 8 ≤ t ∨ t + 8 ≤ o) : numAt b' o = numAt b o := by
  unfold numAt; rw [h.len, h.same o 8 ho]
/-- Blocks, one behind the other, up to the end. -/
def Tile (b : List UInt8) : Nat → List Blk → Prop
  | o, [] => o = b.length
  | o, x :: r => blkAt b o = some x ∧ Tile b (o + x.size) r
theorem walkFrom_tile (b : List UInt8) : ∀ (bs : List Blk) (f o : Nat), o ≤ b.length → b.length ≤ o + f → (walkFrom b f o = some bs ↔ Tile b o bs)
  | bs, 0, o, h1, h2 => by
    obtain rfl : o = b.length := by omega
    unfold walkFrom
    rw [if_neg (by omega)]
    constructor
    · intro h
      simp only [Option.some.injEq] at h
      subst h; rfl
    · intro h
      cases bs with
      | nil => rfl
      | cons x r =>
        have := blkAt_some h.1
        omega
  | bs, f + 1, o, h1, h2 => by
    unfold walkFrom
    split
    · rename_i hlt
      cases hg : blkAt b o with
      | none =>
        constructor
        · intro h; cases h
        · intro h
          cases bs with
          | nil => have : o = b.length := h; omega
          | cons x r => rw [h.1] at hg; cases hg
      | some x =>
        have hx := blkAt_some hg
        cases bs with
        | nil =>
          constructor
          · intro h
            simp only [Option.map_eq_some_iff] at h
            obtain ⟨_, _, h⟩ := h
            cases h
          · intro h; have : o = b.length := h; omega
        | cons y r =>
          have ih := walkFrom_tile b r f (o + x.size) (by omega) (by omega)
          constructor
          · intro h
            simp only [Option.map_eq_some_iff, List.cons.injEq] at h
            obtain ⟨l, h1, rfl, rfl⟩ := h
            exact ⟨hg, ih.1 h1⟩
          · intro h
            have : x = y := by have := hg.symm.trans h.1; simpa using this
            subst this
            simp only [Option.map_eq_some_iff, List.cons.injEq]
            exact ⟨r, ih.2 h.2, trivial, rfl⟩
    · obtain rfl : o = b.length := by omega
      constructor
      · intro h
        simp only [Option.some.injEq] at h
        subst h; rfl
      · intro h
        cases bs with
        | nil => rfl
        | cons x r =>
          have := blkAt_some h.1
          omega
theorem walkB_tile (b : List UInt8) (bs : List Blk) : walkB b = some bs ↔ 184 ≤ b.length ∧ Tile b 184 bs := by
  unfold walkB
  split
  · constructor
    · intro h; cases h
    · intro h; omega
  · rw [walkFrom_tile b bs b.length 184 (by omega) (by omega)]
    exact ⟨fun h => ⟨by omega, h⟩, fun h => h.2⟩
theorem Tile.mem {b : List UInt8} {x : Blk} : ∀ {bs : List Blk} {o : Nat}, Tile b o bs → x ∈ bs → o ≤ x.off ∧ blkAt b x.off = some x ∧ x.off + x.size ≤ b.length
  | [], _, _, h => by cases h
  | y :: r, o, ht, h => by
    have hy := blkAt_some ht.1
    rcases List.mem_cons.1 h with rfl | h
    · rw [hy.1]; exact ⟨Nat.le_refl _, ht.1, by omega⟩
    · have := ht.2.mem h; exact ⟨by omega, this.2⟩
theorem Tile.apart {b : List UInt8} {x y : Blk} : ∀ {bs : List Blk} {o : Nat}, Tile b o bs → x ∈ bs → y ∈ bs → x = y ∨ x.off + x.size ≤ y.off ∨ y.off + y.size ≤ x.off
  | [], _, _, h, _ => by cases h
  | z :: r, o, ht, hx, hy => by
    have hz := blkAt_some ht.1
    rcases List.mem_cons.1 hx with e1 | h1 <;> rcases List.mem_cons.1 hy with e2 | h2
    · exact .inl (e1.trans e2.symm)
    · subst e1; have := ht.2.mem h2; exact .inr (.inl (by omega))
    · subst e2; have := ht.2.mem h1; exact .inr (.inr (by omega))
    · exact ht.2.apart h1 h2
/-- Blocks that are there, no two with a byte in common. -/
structure Good (b : List UInt8) (bs : List Blk) : Prop where
  mem : ∀ {x : Blk}, x ∈ bs → 184 ≤ x.off ∧ blkAt b x.off = some x ∧ x.off + x.size ≤ b.length
  apart : ∀ {x y : Blk}, x ∈ bs → y ∈ bs → x = y ∨ x.off + x.size ≤ y.off ∨ y.off + y.size ≤ x.off
theorem Tile.good {b : List UInt8} {bs : List Blk} (h : Tile b 184 bs) : Good b bs := ⟨fun hx => h.mem hx, fun hx hy => h.apart hx hy⟩
/-- Words of the header, and the two link words of free blocks. -/
def LinkW (bs : List Blk) (t : Nat) : Prop := t + 8 ≤ 184 ∨ ∃ x ∈ bs, x.used = false ∧ (t = x.off + 8 ∨ t = x.off + 16)
theorem blkAt_touch {T : Nat → Prop} {b b' : List UInt8} (h : Touch T b b') {o : Nat} {x : Blk} (hx : blkAt b o = some x) (ht : ∀ t, T t → (o + 8 ≤ t ∨ t + 8 ≤ o) ∧ (o + x.size ≤ t ∨ t + 8 ≤ o + x.size - 8)) : blkAt b' o = some x := by
  have hs := blkAt_some hx
  have e1 := h.num o fun t h => (ht t h).1
  have e2 := h.num (o + x.size - 8) fun t h => by have := (ht t h).2; omega
  have hsz : x.size = (tagS (numAt b o)).toNat := by omega
  rw [hsz] at e2
  unfold blkAt at hx ⊢
  rw [e1, h.len, e2]
  exact hx
theorem LinkW.off {b : List UInt8} {bs : List Blk} (h : Good b bs) {t : Nat} (ht : LinkW bs t) {x : Blk} (hx : x ∈ bs) : (x.off + 8 ≤ t ∨ t + 8 ≤ x.off) ∧ (x.off + x.size ≤ t ∨ t + 8 ≤ x.off + x.size - 8) := by
  have h1 := h.mem hx
  have h2 := blkAt_some h1.2.1
  rcases ht with ht | ⟨y, hy, _, ht⟩
  · omega
  · have h3 := h.mem hy
    have h4 := blkAt_some h3.2.1
    rcases h.apart hx hy with rfl | h5 | h5 <;> rcases ht with rfl | rfl <;> omega
theorem Tile.touch {b b' : List UInt8} {bs : List Blk} (h : Tile b 184 bs) (hl : 184 ≤ b.length) (ht : Touch (LinkW bs) b b') : Tile b' 184 bs := by
  have key : ∀ (r : List Blk) (o : Nat), Tile b o r → (∀ x ∈ r, x ∈ bs) → Tile b' o r := by
    intro r
    induction r with
    | nil => intro o h _; exact h.trans ht.len.symm
    | cons x r ih =>
      intro o h1 h2
      have hx := (blkAt_some h1.1).1
      refine ⟨blkAt_touch ht h1.1 fun t h3 => ?_, ih _ h1.2 fun y hy => h2 y (List.mem_cons_of_mem _ hy)⟩
      have := h3.off h.good (h2 x (List.mem_cons_self ..))
      rw [hx] at this; exact this
  exact key bs 184 h fun x hx => hx
theorem Good.touch {b b' : List UInt8} {bs : List Blk} (h : Good b bs) (ht : Touch (LinkW bs) b b') : Good b' bs :=
  ⟨fun {x} hx => by
    have h1 := h.mem hx
    exact ⟨h1.1, blkAt_touch ht h1.2.1 fun t h3 => h3.off h hx, by rw [ht.len]; exact h1.2.2⟩, fun hx hy => h.apart hx hy⟩
/-- From one's predecessor and one's place through a list to the next place. -/
def Seg (b : List UInt8) : Nat → Nat → List Nat → Nat → Nat → Prop
  | last, at_, [], last', at' => last' = last ∧ at' = at_
  | last, at_, o :: r, last', at' => at_ = o ∧ numAt b (o + 16) = last ∧ Seg b o (numAt b (o + 8)) r last' at'
theorem Seg.append {b : List UInt8} : ∀ {l1 l2 : List Nat} {p q p' q' : Nat}, Seg b p q (l1 ++ l2) p' q' ↔ ∃ m k, Seg b p q l1 m k ∧ Seg b m k l2 p' q'
  | [], l2, p, q, p', q' => by
    constructor
    · intro h; exact ⟨p, q, ⟨rfl, rfl⟩, h⟩
    · rintro ⟨m, k, ⟨rfl, rfl⟩, h⟩; exact h
  | o :: l1, l2, p, q, p', q' => by
    simp only [List.cons_append, Seg, Seg.append (l1 := l1)]
    constructor
    · rintro ⟨h1, h2, m, k, h3, h4⟩; exact ⟨m, k, ⟨h1, h2, h3⟩, h4⟩
    · rintro ⟨m, k, ⟨h1, h2, h3⟩, h4⟩; exact ⟨h1, h2, m, k, h3, h4⟩
theorem Seg.frame {b b' : List UInt8} : ∀ {l : List Nat} {p q p' q' : Nat}, (∀ o ∈ l, numAt b' (o + 8) = numAt b (o + 8) ∧ numAt b' (o + 16) = numAt b (o + 16)) → Seg b p q l p' q' → Seg b' p q l p' q'
  | [], _, _, _, _, _, h => h
  | o :: l, p, q, p', q', hf, h => by
    have := hf o (List.mem_cons_self ..)
    refine ⟨h.1, this.2.trans h.2.1, ?_⟩
    rw [this.1]
    exact h.2.2.frame fun o ho => hf o (List.mem_cons_of_mem _ ho)
theorem Seg.last {b : List UInt8} : ∀ {l : List Nat} {p q p' q' : Nat}, Seg b p q l p' q' → p' = l.getLastD p
  | [], _, _, _, _, h => h.1
  | o :: l, p, q, p', q', h => by
    rw [h.2.2.last]
    cases l <;> rfl
theorem Seg.head {b : List UInt8} {l : List Nat} {p q p' q' : Nat} (h : Seg b p q l p' q') : q = l.headD q' := by
  cases l with
  | nil => exact h.2.symm
  | cons o l => exact h.1
end Go.Own

/- One bit of a number, set or cleared. No program. -/
namespace Go.Own
theorem bitAt_test (w c : Nat) : bitAt w c = w.testBit c := by unfold bitAt; rw [Nat.testBit_eq_decide_div_mod_eq]
theorem bitAt_set (w c d : Nat) (v : Bool) : bitAt (setBit w c v) d = if d = c then v else bitAt w d := by
  unfold setBit
  split
  · rename_i h; split
    · rename_i e; subst e; exact h
    · rfl
  · rename_i h
    rw [bitAt_test] at h
    rw [bitAt_test, bitAt_test, Nat.testBit_xor, Nat.testBit_two_pow]
    split
    · rename_i e; subst e
      cases hb : w.testBit d <;> cases v <;> simp_all
    · rename_i e
      have : decide (c = d) = false := decide_eq_false fun h => e h.symm
      rw [this]; simp
theorem setBit_lt {w c : Nat} {v : Bool} (h : w < 4194304) (hc : c < 22) : setBit w c v < 4194304 := by
  unfold setBit
  split
  · exact h
  · exact Nat.xor_lt_two_pow (n := 22) h (Nat.pow_lt_pow_right (by decide) hc)
theorem setBit_lt64 {w c : Nat} {v : Bool} (h : w < 18446744073709551616) (hc : c < 22) : setBit w c v < 18446744073709551616 := by
  unfold setBit
  split
  · exact h
  · exact Nat.xor_lt_two_pow (n := 64) h (Nat.pow_lt_pow_right (by decide) (by omega))
theorem or_bit (w c : Nat) : w ||| 2 ^ c = setBit w c true := by
  apply Nat.eq_of_testBit_eq
  intro d
  rw [← bitAt_test (setBit w c true), bitAt_set, bitAt_test, Nat.testBit_or, Nat.testBit_two_pow]
  split
  · rename_i e; subst e; simp
  · rename_i e
    have : decide (c = d) = false := decide_eq_false fun h => e h.symm
    rw [this]; simp
theorem andNot_bit (w c : Nat) (h : w < 18446744073709551616) (hc : c < 22) : w &&& (18446744073709551615 - 2 ^ c) = setBit w c false := by
  apply Nat.eq_of_testBit_eq
  intro d
  have e : 18446744073709551615 - 2 ^ c = 2 ^ 64 - (2 ^ c + 1) := by
    have : (2 : Nat) ^ 64 = 18446744073709551616 := by decide
    omega
  rw [← bitAt_test (setBit w c false), bitAt_set, bitAt_test, Nat.testBit_and, e, Nat.testBit_two_pow_sub_succ (Nat.pow_lt_pow_right (by decide) (by omega)), Nat.testBit_two_pow]
  by_cases hd : d < 64
  · split
    · rename_i e; subst e; simp
    · rename_i e
      have : decide (c = d) = false := decide_eq_false fun h => e h.symm
      rw [this]; simp [hd]
  · have : w.testBit d = false := Nat.testBit_lt_two_pow (Nat.lt_of_lt_of_le h (by
      have : (18446744073709551616 : Nat) = 2 ^ 64 := by decide
      rw [this]; exact Nat.pow_le_pow_right (by decide) (by omega)))
    rw [this]; simp
end Go.Own
