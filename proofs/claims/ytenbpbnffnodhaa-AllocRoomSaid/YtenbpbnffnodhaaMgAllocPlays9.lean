/- Texts of the proof of 'AllocPlays', part 9: words on memory, contracts of functions, plain laws. No condition. -/
import Derived.Test.YtenbpbnffnodhaaMgAllocPlays8
import Derived.Lib.ReflectliteSwap
set_option linter.unusedSimpArgs false
set_option linter.unusedVariables false
/- Two things in memory become one; a row of slices. -/
namespace Go.Own
open Go Go.RowKit
theorem SL.join {B : Nat} {w : World} (hB : B ≤ w.heap.size) {V : Nat → Prop} (hVB : ∀ x, V x → B ≤ x) : ∀ {l : List Ob} {U : Bool → Nat → Prop} {i : Nat} {Q : Ob}, SL B w l U → (∀ m x, U m x → x < w.heap.size) → (∀ x, V x → U true x) → l[i]? = some Q → Q.m = true →
    ∃ G, Q.p w G ∧ (∀ x, G x → ¬ U true x ∧ ¬ U false x ∧ B ≤ x) ∧ ∀ (w' : World) (F' : Nat → Prop) (R : Ob) (U' : Bool → Nat → Prop), Keep (fun x => G x ∨ V x) w w' → R.p w' F' → (∀ x, F' x → G x ∨ V x ∨ w.heap.size ≤ x) → (∀ m x, U' m x → U m x ∧ ¬ V x) → SL B w' (l.set i R) U'
  | [], _, _, _, _, _, _, hi, _ => by simp at hi
  | Q0 :: r, U, 0, Q, h, hU, hV, hi, hm => by
    obtain ⟨G, h1, h2, h4⟩ := h
    simp only [List.getElem?_cons_zero, Option.some.injEq] at hi
    subst hi
    refine ⟨G, h1, fun x hx => ⟨(h2 x hx).1, (h2 x hx).2 hm⟩, fun w' F' R U' k hp hF hU' => ⟨F', hp, fun x hx => ?_, SL.move k h4 (fun x hx => ?_) (fun m x hx => ?_)⟩⟩
    · have hno : ∀ m, ¬ U' m x := fun m hu => by
        obtain ⟨u1, u2⟩ := hU' m x hu
        rcases hF x hx with h | h | h
        · cases m with
          | true => exact (h2 x h).1 u1
          | false => exact ((h2 x h).2 hm).1 u1
        · exact u2 h
        · have := hU m x u1; omega
      refine ⟨hno true, fun _ => ⟨hno false, ?_⟩⟩
      rcases hF x hx with h | h | h
      · exact ((h2 x h).2 hm).2
      · exact hVB x h
      · omega
    · rcases hx with hx | hx
      · exact .inr ⟨hm.symm, hx⟩
      · exact .inl (hV x hx)
    · rcases hx with hx | ⟨rfl, hx⟩
      · exact .inl (.inl (hU' m x hx).1)
      · rcases hF x hx with h | h | h
        · exact .inr (.inl (.inr ⟨hm.symm, h⟩))
        · exact .inr (.inl (.inl (hV x h)))
        · exact .inr (.inr h)
  | P0 :: r, U, i + 1, Q, h, hU, hV, hi, hm => by
    obtain ⟨F0, h1, h2, h4⟩ := h
    rw [List.getElem?_cons_succ] at hi
    obtain ⟨G, a1, a2, a4⟩ := SL.join hB hVB h4 (fun m x hx => hx.elim (hU m x) fun h => P0.lt h1 x h.2) (fun x hx => .inl (hV x hx)) hi hm
    refine ⟨G, a1, fun x hx => ⟨fun hu => (a2 x hx).1 (.inl hu), fun hu => (a2 x hx).2.1 (.inl hu), (a2 x hx).2.2⟩, fun w' F' R U' k hp hF hU' => ⟨F0, P0.kept h1 k fun x hx hg => ?_, fun x hx => ⟨fun hu => (h2 x hx).1 (hU' true x hu).1, fun hm0 => ⟨fun hu => ((h2 x hx).2 hm0).1 (hU' false x hu).1, ((h2 x hx).2 hm0).2⟩⟩, a4 w' F' R _ k hp hF fun m x hx => ?_⟩⟩
    · rcases hg with hg | hg
      · cases hpm : P0.m with
        | true => exact (a2 x hg).1 (.inr ⟨hpm.symm, hx⟩)
        | false => exact (a2 x hg).2.1 (.inr ⟨hpm.symm, hx⟩)
      · exact (h2 x hx).1 (hV x hg)
    · rcases hx with hx | hx
      · exact ⟨.inl (hU' m x hx).1, (hU' m x hx).2⟩
      · exact ⟨.inr hx, fun hv => (h2 x hx.2).1 (hV x hv)⟩
/-- The first thing, and another one, become one. -/
theorem St.join {B : Nat} {w0 w : World} {l : List Ob} {i : Nat} {P Q : Ob} (h : St B w0 w (P :: l)) (hP : P.m = true) (hi : l[i]? = some Q) (hQ : Q.m = true) :
    ∃ F G, P.p w F ∧ Q.p w G ∧ (∀ x, G x → ¬ F x) ∧ (∀ x, F x → x < w.heap.size) ∧ (∀ x, G x → x < w.heap.size) ∧
      ∀ (w' : World) (F' : Nat → Prop) (R : Ob), Keep (fun x => G x ∨ F x) w w' → R.p w' F' → (∀ x, F' x → G x ∨ F x ∨ w.heap.size ≤ x) → St B w0 w' (l.set i R) := by
  obtain ⟨F, h1, h2, h4⟩ := h.sl
  have hFB : ∀ x, F x → B ≤ x := fun x hx => ((h2 x hx).2 hP).2
  obtain ⟨G, g1, g2, g4⟩ := SL.join h.size hFB h4 (fun m x hx => hx.elim (fun h => h.elim) fun h => P.lt h1 x h.2) (fun x hx => .inr ⟨hP.symm, hx⟩) hi hQ
  refine ⟨F, G, h1, g1, fun x hx hf => (g2 x hx).1 (.inr ⟨hP.symm, hf⟩), P.lt h1, Q.lt g1, fun w' F' R k hp hF => ⟨h.base, h.keep.trans (k.mono fun x _ hx => hx.elim (fun hx => (g2 x hx).2.2) (hFB x)), g4 w' F' R _ k hp hF fun m x hx => hx.elim⟩⟩
/-- 'v[j] = x' on a row of one's own, of one cell each. -/
theorem St.setOwn {B : Nat} {w0 w : World} {l : List Ob} {i : Nat} {e : TypeId} {v : Value} {n : Nat} {cs : List Value} (h : St B w0 w l) (hi : l[i]? = some (OwO e 1 v n cs)) (j : Nat) (hj : j < cs.length) :
    ∃ g cap, v = .slice (some ⟨g, 0, none⟩) n cap ∧ w.cell? ⟨g, j, none⟩ = some cs[j] ∧ w.frozen? ⟨g, j, none⟩ = false ∧
      ∀ x, x.oneCell' = true → St B w0 (w.setCell ⟨g, j, none⟩ x) (l.set i (OwO e 1 v n (cs.set j x))) := by
  have ho := h.own hi
  have hn : n = cs.length := by have := ho.1; omega
  subst hn
  obtain ⟨g, cap, cur, rfl, _⟩ := own_some ho (by omega)
  refine ⟨g, cap, rfl, ?_, ho.frozenAt j, fun x hx => ?_⟩
  · rw [ho.cellAt j (by omega)]; simp [hj]
  · exact h.ownTo hi _ _ _ _ (ho.stored j x).1 ((Keep.refl (fun k => (Value.slice (some ⟨g, 0, none⟩) cs.length cap).ownBlock = some k) w).setCell (p := ⟨g, j, none⟩) (.inl rfl) _) (.inl rfl)
/-- A slice value. -/
structure Sv where
  a : Option Addr
  n : Nat
  c : Nat
def Sv.v (s : Sv) : Value := .slice s.a s.n s.c
/-- A row of one's own, of slices; each reads as a row of cells, in blocks that aren't the row's own. -/
def MxO (e : TypeId) (v : Value) (ss : List Sv) (rows : List (List Value)) : Ob where
  m := true
  p := fun w F => (w.ownsRow 0 e 1 v ss.length (ss.map Sv.v) ∧ (∀ g, v.ownBlock = some g → F g) ∧ ss.length = rows.length ∧
    ∀ (j : Nat) (s : Sv) (r : List Value), ss[j]? = some s → rows[j]? = some r → Sl w s.a s.n s.c 1 r ∧ ∀ q : Addr, s.a = some q → 0 < r.length → F q.block ∧ v.ownBlock ≠ some q.block) ∧ ∀ k, F k → k < w.heap.size
  lt := fun h => h.2
  kept := fun {w w' F G} h k hd => by
    obtain ⟨⟨h1, h2, h3, h4⟩, h5⟩ := h
    refine ⟨⟨own_kept h1 k fun g hg => hd g (h2 g hg), h2, h3, fun j s r hs hr => ?_⟩, fun x hx => Nat.lt_of_lt_of_le (h5 x hx) k.size⟩
    obtain ⟨s1, s2⟩ := h4 j s r hs hr
    refine ⟨⟨s1.len, s1.cap, s1.room, s1.nilcap, fun i v hi => ?_⟩, s2⟩
    obtain ⟨b', o, e, hc⟩ := s1.cells i v hi
    have hl : 0 < r.length := by have := (List.getElem?_eq_some_iff.1 hi).1; omega
    refine ⟨b', o, e, ?_⟩
    rw [cell_of_block (w := w) (p := ⟨b', o + i, none⟩) (k.block b' (World.block_lt_of_cell? w _ hc) (hd _ (s2 _ e hl).1))]
    exact hc
section
variable {B : Nat} {w0 w : World} {l : List Ob} {e : TypeId} {v : Value} {ss : List Sv} {rows : List (List Value)}
/-- One of the slices: where it lies, what it reads as. -/
theorem St.mx (h : St B w0 w l) {i : Nat} (hi : l[i]? = some (MxO e v ss rows)) (j : Nat) (hj : j < ss.length) :
    ∃ g cap r, v = .slice (some ⟨g, 0, none⟩) ss.length cap ∧ ss.length ≤ cap ∧ cap ≤ 9223372036854775807 ∧ w.cell? ⟨g, j, none⟩ = some (.slice ss[j].a ss[j].n ss[j].c) ∧ w.frozen? ⟨g, j, none⟩ = false ∧ rows[j]? = some r ∧ Sl w ss[j].a ss[j].n ss[j].c 1 r := by
  obtain ⟨F, ⟨⟨h1, h2, h3, h4⟩, h5⟩, _⟩ := h.at hi
  obtain ⟨g, cap, cur, e1, _⟩ := own_some h1 (by rw [List.length_map]; omega)
  subst e1
  obtain ⟨a', c', ev, _, hsl⟩ := Sl.of_owned h1
  cases ev
  have hc := Sl.cap hsl; have hr := Sl.room hsl
  obtain ⟨s1, _⟩ := h4 j ss[j] rows[j] (List.getElem?_eq_getElem hj) (List.getElem?_eq_getElem (by omega))
  refine ⟨g, cap, rows[j]'(by omega), rfl, hc, hr, ?_, h1.frozenAt j, List.getElem?_eq_getElem _, s1⟩
  rw [h1.cellAt j (by omega)]; simp [hj, Sv.v]
/-- 'v[j] = x', x a row of one's own that is no longer used by another name. -/
theorem St.mxSet {e' : TypeId} {u : Value} {n : Nat} {cs : List Value} (h : St B w0 w (OwO e' 1 u n cs :: l)) {i : Nat} (hi : l[i]? = some (MxO e v ss rows)) (j : Nat) (hj : j < ss.length) :
    ∃ g cap s, v = .slice (some ⟨g, 0, none⟩) ss.length cap ∧ u = Sv.v s ∧ (∃ x, w.cell? ⟨g, j, none⟩ = some x) ∧ w.frozen? ⟨g, j, none⟩ = false ∧ St B w0 (w.setCell ⟨g, j, none⟩ u) (l.set i (MxO e v (ss.set j s) (rows.set j cs))) := by
  obtain ⟨F, G, ⟨f1, f2, f3⟩, ⟨⟨h1, h2, h3, h4⟩, h5⟩, hd, _, _, hto⟩ := h.join rfl hi rfl
  obtain ⟨g, cap, cur, e1, _⟩ := own_some h1 (by rw [List.length_map]; omega)
  subst e1
  obtain ⟨a, c, eu, _, hsl⟩ := Sl.of_owned f1
  subst eu
  have hg : G g := h2 g rfl
  have kp : Keep (fun x => x = g) w (w.setCell ⟨g, j, none⟩ (.slice a n c)) := (Keep.refl (fun x => x = g) w).setCell (p := ⟨g, j, none⟩) (.inl rfl) _
  have hst := h1.stored j (.slice a n c)
  refine ⟨g, cap, ⟨a, n, c⟩, rfl, rfl, ⟨ss[j].v, by rw [h1.cellAt j (by omega)]; simp [hj]⟩, h1.frozenAt j, ?_⟩
  refine hto _ (fun x => G x ∨ F x) _ (kp.mono fun x _ hx => .inl (by rw [hx]; exact hg)) ⟨⟨?_, fun g' hg' => .inl (h2 g' hg'), by rw [List.length_set, List.length_set]; exact h3, fun j' s r hs hr => ?_⟩, fun x hx => ?_⟩ fun x hx => hx.elim .inl fun hx => .inr (.inl hx)
  · rw [List.length_set, List.map_set]; exact hst.1
  · by_cases hjj : j' = j
    · subst hjj
      rw [List.getElem?_set_self hj] at hs
      rw [List.getElem?_set_self (by omega)] at hr
      simp only [Option.some.injEq] at hs hr
      subst hs; subst hr
      have hblk : ∀ q, a = some q → 0 < cs.length → F q.block ∧ q.block ≠ g := fun q hq h0 => by
        have hF : F q.block := by
          refine f2 _ ?_
          obtain ⟨b0, o0, e0, _⟩ := hsl.cells 0 cs[0] (List.getElem?_eq_getElem h0)
          obtain ⟨g2, cap2, cur2, e2, _⟩ := own_some f1 h0
          cases e2
          cases hq
          rfl
        exact ⟨hF, fun e => hd _ (e ▸ hg) hF⟩
      refine ⟨⟨hsl.len, hsl.cap, hsl.room, hsl.nilcap, fun i v hi => ?_⟩, fun q hq h0 => ⟨.inr (hblk q hq h0).1, fun he => (hblk q hq h0).2 ?_⟩⟩
      · obtain ⟨b', o, e, hc⟩ := hsl.cells i v hi
        have hl : 0 < cs.length := by have := (List.getElem?_eq_some_iff.1 hi).1; omega
        refine ⟨b', o, e, ?_⟩
        rw [cell_of_block (w := w) (p := ⟨b', o + i, none⟩) (kp.block b' (World.block_lt_of_cell? w _ hc) (hblk _ e hl).2)]
        exact hc
      · simp only [Value.ownBlock, Option.map_some, Option.some.injEq] at he; exact he.symm
    · rw [List.getElem?_set_ne (fun e => hjj e.symm)] at hs hr
      obtain ⟨s1, s2⟩ := h4 j' s r hs hr
      refine ⟨⟨s1.len, s1.cap, s1.room, s1.nilcap, fun i v hi => ?_⟩, fun q hq h0 => ⟨.inl (s2 q hq h0).1, (s2 q hq h0).2⟩⟩
      obtain ⟨b', o, e, hc⟩ := s1.cells i v hi
      have hl : 0 < r.length := by have := (List.getElem?_eq_some_iff.1 hi).1; omega
      refine ⟨b', o, e, ?_⟩
      rw [cell_of_block (w := w) (p := ⟨b', o + i, none⟩) (kp.block b' (World.block_lt_of_cell? w _ hc) (fun hb => (s2 _ e hl).2 (by have hb : b' = g := hb; subst hb; rfl)))]
      exact hc
  · simp only [World.setCell, Array.size_modify]
    rcases hx with hx | hx
    · exact h5 x hx
    · exact f3 x hx
end
section
variable {P : Program} {ops : Array Oper} {rest : List Oper} {o : Oper} {a : Act} {Q : Exit → Act → World → Prop} {K : Act → World → Prop}
/-- '*p = u', u of one cell. -/
theorem store_cell_at {w : World} (t : TypeId) (x y : Operand) (ho : o.op = .store t x y) (p : Addr) (hx : a.eval x = .pointer (some p)) (u old : Value) (hy : a.eval y = u) (hu : u.oneCell' = true) (ht : (P.info? t).map (·.size) = some 1)
    (hc : w.cell? p = some old) (hf : w.frozen? p = false) (hk : K (a.put o.dst undef) (w.setCell p u)) : o.wp P a w K Q := by
  cases hi : P.info? t with
  | none => rw [hi] at ht; cases ht
  | some ie =>
    rw [hi] at ht
    simp only [Option.map_some, Option.some.injEq] at ht
    have hst := Lib.rl_storeVar_one (P := P) t ie hi ht p u old hu w hc hf
    unfold Oper.wp execOp
    simp only [ho, hx, hy, Instr.storeAt, Instr.sureAddr]
    simp [Sem.run_bind, Result.andThen, hst]
    exact hk
section
variable {B : Nat} {w0 w : World} {l : List Ob}
theorem own_store_at (h : St B w0 w l) (i : Nat) {e : TypeId} {g nv n cap : Nat} {cs : List Value} (hi : l[i]? = some (OwO e 1 (.slice (some ⟨g, 0, none⟩) nv cap) n cs)) (j : Nat) (hj : j < cs.length) (t : TypeId) (x y : Operand) (ho : o.op = .store t x y)
    (hx : a.eval x = .pointer (some ⟨g, j, none⟩)) (u : Value) (hy : a.eval y = u) (hu : u.oneCell' = true) (ht : (P.info? t).map (·.size) = some 1)
    (hk : ∀ w', St B w0 w' (l.set i (OwO e 1 (.slice (some ⟨g, 0, none⟩) nv cap) n (cs.set j u))) → K (a.put o.dst undef) w') : o.wp P a w K Q := by
  obtain ⟨g', cap', e', hc, hf, hset⟩ := h.setOwn hi j hj
  cases e'
  exact store_cell_at t x y ho _ hx u _ hy hu ht hc hf (hk _ (hset u hu))
theorem own_store (h : St B w0 w l) (i : Nat) {e : TypeId} {g nv n cap : Nat} {cs : List Value} (hi : l[i]? = some (OwO e 1 (.slice (some ⟨g, 0, none⟩) nv cap) n cs)) (j : Nat) (hj : j < cs.length) (hgd : Region.wanted o (yielded ops a.tmps) = true) (t : TypeId) (x y : Operand) (ho : o.op = .store t x y)
    (hx : a.eval x = .pointer (some ⟨g, j, none⟩)) (u : Value) (hy : a.eval y = u) (hu : u.oneCell' = true) (ht : (P.info? t).map (·.size) = some 1)
    (hk : ∀ w', St B w0 w' (l.set i (OwO e 1 (.slice (some ⟨g, 0, none⟩) nv cap) n (cs.set j u))) → wpList P ops Q rest (a.put o.dst undef) w') : wpList P ops Q (o :: rest) a w :=
  at_wanted hgd fun _ hK => own_store_at h i hi j hj t x y ho hx u hy hu ht fun w' h' => hK _ _ (hk w' h')
theorem mx_store_at {e e' : TypeId} {u : Value} {n : Nat} {cs : List Value} {g cap : Nat} {ss : List Sv} {rows : List (List Value)} {m : Nat} (h : St B w0 w (OwO e' 1 u n cs :: l)) (i : Nat) (hi : l[i]? = some (MxO e (.slice (some ⟨g, 0, none⟩) m cap) ss rows)) (j : Nat) (hj : j < ss.length) (t : TypeId) (x y : Operand) (ho : o.op = .store t x y)
    (hx : a.eval x = .pointer (some ⟨g, j, none⟩)) (hy : a.eval y = u) (ht : (P.info? t).map (·.size) = some 1)
    (hk : ∀ w' s, St B w0 w' (l.set i (MxO e (.slice (some ⟨g, 0, none⟩) m cap) (ss.set j s) (rows.set j cs))) → K (a.put o.dst undef) w') : o.wp P a w K Q := by
  obtain ⟨g', cap', s, e1, e2, ⟨z, hz⟩, hf, hset⟩ := h.mxSet hi j hj
  cases e1
  exact store_cell_at t x y ho _ hx u z hy (by rw [e2]; rfl) ht hz hf (hk _ s hset)
theorem mx_store {e e' : TypeId} {u : Value} {n : Nat} {cs : List Value} {g cap : Nat} {ss : List Sv} {rows : List (List Value)} {m : Nat} (h : St B w0 w (OwO e' 1 u n cs :: l)) (i : Nat) (hi : l[i]? = some (MxO e (.slice (some ⟨g, 0, none⟩) m cap) ss rows)) (j : Nat) (hj : j < ss.length) (hgd : Region.wanted o (yielded ops a.tmps) = true) (t : TypeId) (x y : Operand) (ho : o.op = .store t x y)
    (hx : a.eval x = .pointer (some ⟨g, j, none⟩)) (hy : a.eval y = u) (ht : (P.info? t).map (·.size) = some 1)
    (hk : ∀ w' s, St B w0 w' (l.set i (MxO e (.slice (some ⟨g, 0, none⟩) m cap) (ss.set j s) (rows.set j cs))) → wpList P ops Q rest (a.put o.dst undef) w') : wpList P ops Q (o :: rest) a w :=
  at_wanted hgd fun _ hK => mx_store_at h i hi j hj t x y ho hx hy ht fun w' s h' => hK _ _ (hk w' s h')
end
end
end Go.Own
