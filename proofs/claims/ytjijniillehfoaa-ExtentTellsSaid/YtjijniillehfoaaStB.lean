/- Bytes of one's own beside whatever else there is: rules for walks. -/
import Derived.Test.YtjijniillehfoaaArSt
import Derived.Test.YtjijniillehfoaaGrowA
import Derived.Test.YtjijniillehfoaaOwnM
import Derived.Test.YtjijniillehfoaaPiece
import Derived.Test.YtjijniillehfoaaDisk1
namespace Go.Own
open Go Go.RowKit
/-- 'b[i:]', whatever the world. -/
theorem piece_fromA {P : Program} {t e : TypeId} (ht : P.underlying t = some (.slice e)) (he : (P.info? e).map (·.size) = some 1) {w : World} {a : Option Addr} {n c : Nat} {l : List UInt8} (h : Bs w a n c l) (k : IntKind) (I : Int) (i : Nat) (hI : I = i) (hi : i ≤ n) :
    ∃ a' c', (∀ W : World, (Instr.sliceAt t (.slice a n c) (some (.int k I)) none none).run P W = .ok (.slice a' (n - i) c') W) ∧ ∀ w, Bs w a n c l → Bs w a' (n - i) c' (l.drop i) := by
  subst hI
  have hc := Sl.cap h; have hr := Sl.room h
  refine ⟨if c = i then a else a.map (·.add i), c - i, fun W => ?_, fun w h => ?_⟩
  · rw [run_sliceAt_slice W t _ _ _ _ (by rw [elem_eq ht]; exact ht), run_slice_l W t a n c (by rw [elem_eq ht]; exact ht) k i (by omega) (by omega), elem_eq ht, run_size1 he]
    simp [Result.andThen, sliced]
  · have hl := h.len
    have hx := h.cutIf i n hi (Nat.le_refl _)
    rw [List.take_of_length_le (by omega)] at hx
    exact hx
/-- 'b[i:j]', whatever the world. -/
theorem pieceA {P : Program} {t e : TypeId} (ht : P.underlying t = some (.slice e)) (he : (P.info? e).map (·.size) = some 1) {w : World} {a : Option Addr} {n c : Nat} {l : List UInt8} (h : Bs w a n c l) (k k' : IntKind) (I J : Int) (i j : Nat) (hI : I = i) (hJ : J = j) (hij : i ≤ j) (hj : j ≤ n) :
    ∃ a' c', (∀ W : World, (Instr.sliceAt t (.slice a n c) (some (.int k I)) (some (.int k' J)) none).run P W = .ok (.slice a' (j - i) c') W) ∧ ∀ w, Bs w a n c l → Bs w a' (j - i) c' ((l.take j).drop i) := by
  subst hI; subst hJ
  have hc := Sl.cap h; have hr := Sl.room h
  refine ⟨_, _, fun W => ?_, fun w h => h.cutIf i j hij hj⟩
  rw [run_sliceAt_slice W t _ _ _ _ (by rw [elem_eq ht]; exact ht), run_slice_lh W t a n c (by rw [elem_eq ht]; exact ht) k k' i j (by omega) (by omega) (by omega), elem_eq ht, run_size1 he]
  simp [Result.andThen, sliced]
/-- 'b[:j]', whatever the world. -/
theorem piece_toA {P : Program} {t e : TypeId} (ht : P.underlying t = some (.slice e)) (he : (P.info? e).map (·.size) = some 1) {w : World} {a : Option Addr} {n c : Nat} {l : List UInt8} (h : Bs w a n c l) (k : IntKind) (J : Int) (j : Nat) (hJ : J = j) (hj : j ≤ n) :
    ∃ a' c', (∀ W : World, (Instr.sliceAt t (.slice a n c) none (some (.int k J)) none).run P W = .ok (.slice a' j c') W) ∧ ∀ w, Bs w a n c l → Bs w a' j c' (l.take j) := by
  subst hJ
  have hc := Sl.cap h; have hr := Sl.room h
  refine ⟨if c = 0 then a else a.map (·.add 0), c, fun W => ?_, fun w h => ?_⟩
  · rw [run_sliceAt_slice W t _ _ _ _ (by rw [elem_eq ht]; exact ht), run_slice_h W t a n c (by rw [elem_eq ht]; exact ht) k j (by omega) (by omega), elem_eq ht, run_size1 he]
    simp [Result.andThen, sliced]
  · have hx := h.cutIf 0 j (Nat.zero_le _) hj
    simp only [Nat.sub_zero, List.drop_zero] at hx
    exact hx
section
variable {B : Nat} {w0 w : World} {l : List Ob} {i : Nat}
theorem St.ownTo {e : TypeId} {z : Nat} {v : Value} {n : Nat} {cs : List Value} (h : St B w0 w l) (hi : l[i]? = some (OwO e z v n cs)) (w' : World) (v' : Value) (n' : Nat) (cs' : List Value)
    (hp : w'.ownsRow 0 e z v' n' cs') (k : Keep (fun k => v.ownBlock = some k) w w') (hv : v'.ownBlock = v.ownBlock ∨ v'.ownBlock = some w.heap.size) : St B w0 w' (l.set i (OwO e z v' n' cs')) := by
  obtain ⟨F, ⟨h1, h2, h3⟩, _, _, h4⟩ := h.at hi
  refine h4 w' (fun x => v'.ownBlock = some x) _ rfl (k.mono fun x _ hx => h2 x hx) ⟨hp, fun _ h => h, fun x hx => (own_block_lt hp hx).2⟩ fun x hx => ?_
  rcases hv with hv | hv
  · exact .inl (h2 _ (by rw [← hv]; exact hx))
  · rw [hv] at hx; cases hx; exact .inr (Nat.le_refl _)
theorem St.bsOwn {e : TypeId} {v : Value} {n : Nat} {b : List UInt8} (h : St B w0 w l) (hi : l[i]? = some (OwO e 1 v n (b.map bv))) : ∃ a c, v = .slice a n c ∧ Bs w a n c b := by
  obtain ⟨a, c, e1, _, hb⟩ := Sl.of_owned (h.own hi)
  exact ⟨a, c, e1, hb⟩
theorem set_same {P : Ob} (hi : l[i]? = some P) : l.set i P = l := by
  obtain ⟨hlt, e⟩ := List.getElem?_eq_some_iff.1 hi
  rw [← e]; exact List.set_getElem_self hlt
end
end Go.Own
namespace Go.Proofs.Ytjijniillehfoaa
open Go Go.RowKit Go.Own
set_option linter.unusedVariables false
section
variable {B : Nat} {w0 w : World} {l : List Ob}
/-- 'make([]byte, n)'. -/
theorem mk_st (h : St B w0 w l) (m : Int) (n : Nat) (hm : m = n) (hn : n ≤ 281474976710656) :
    ∃ g W, (Instr.makeSlice 31 (.int .i64 m) (.int .i64 m)).run Try.prog w = .ok (.slice (some ⟨g, 0, none⟩) n n) W ∧ St B w0 W (OwB (.slice (some ⟨g, 0, none⟩) n n) (List.replicate n 0) :: l) := by
  refine ⟨_, _, mkBytes w m n hm hn, ?_⟩
  have ho : (w.alloc (.cells ((List.replicate n (0 : UInt8)).map bv).toArray 5 (0, 0))).ownsRow w.heap.size 5 1 (.slice (some ⟨w.heap.size, 0, none⟩) n n) n ((List.replicate n (0 : UInt8)).map bv) :=
    ⟨by simp, .inr ⟨w.heap.size, n, _, rfl, Nat.le_refl _, by show (w.heap.push _)[w.heap.size]? = _; simp, Nat.le_refl _, Nat.le_trans hn (by decide), by simp, List.take_of_length_le (by simp)⟩⟩
  have hs := h.addOwn ((Below.refl _ _).alloc (Nat.le_refl _) (.cells ((List.replicate n (0 : UInt8)).map bv).toArray 5 (0, 0))) ho
  unfold OwB
  rw [List.length_replicate]
  exact hs
section
variable {v : Value} {b : List UInt8}
theorem app_st_at {o : Oper} {a : Act} {K : Act → World → Prop} {Q : Exit → Act → World → Prop} (s x : Operand)
    (ho : o.op = .call { callee := .builtin .append, args := #[s, x], argTypes := #[31, 31] })
    (h : St B w0 w l) (i : Nat) (hi : l[i]? = some (OwB v b)) (hs : a.eval s = v) (ad : Option Addr) (m c : Nat) (b2 : List UInt8) (hx : a.eval x = .slice ad m c) (hb : Bs w ad m c b2)
    (hle : b.length + m ≤ 140737488355328) (hk : ∀ v' w', St B w0 w' (l.set i (OwB v' (b ++ b2))) → K (a.put o.dst v') w') : o.wp Try.prog a w K Q := by
  have hm := hb.len
  refine app_at s x 31 ho 0 5 (.int .u8 0) 1 1 Try.underlying31 info_u8 rfl (by decide) v b.length (b.map bv) hs (h.own hi) ad m c (b2.map bv) hx hb (bv_one _) (by omega) (by omega) (Nat.zero_le _) fun v' w' h1 h2 h3 => hk v' w' ?_
  have := h.ownTo hi w' v' _ _ h1 h2 h3
  unfold OwB
  rw [List.length_append, List.map_append, ← hm]; exact this
theorem app_st {ops : Array Oper} {rest : List Oper} {o : Oper} {a : Act} {Q : Exit → Act → World → Prop} (hgd : Region.wanted o (yielded ops a.tmps) = true) (s x : Operand)
    (ho : o.op = .call { callee := .builtin .append, args := #[s, x], argTypes := #[31, 31] })
    (h : St B w0 w l) (i : Nat) (hi : l[i]? = some (OwB v b)) (hs : a.eval s = v) (ad : Option Addr) (m c : Nat) (b2 : List UInt8) (hx : a.eval x = .slice ad m c) (hb : Bs w ad m c b2)
    (hle : b.length + m ≤ 140737488355328) (hk : ∀ v' w', St B w0 w' (l.set i (OwB v' (b ++ b2))) → wpList Try.prog ops Q rest (a.put o.dst v') w') : wpList Try.prog ops Q (o :: rest) a w :=
  at_wanted hgd fun _ hK => app_st_at s x ho h i hi hs ad m c b2 hx hb hle fun v' w' h1 => hK _ _ (hk v' w' h1)
/-- 'append([]byte{}, b...)'. -/
theorem app_st_new_at {o : Oper} {a : Act} {K : Act → World → Prop} {Q : Exit → Act → World → Prop} (s x : Operand)
    (ho : o.op = .call { callee := .builtin .append, args := #[s, x], argTypes := #[31, 31] })
    (h : St B w0 w l) (hs : a.eval s = .slice (some ⟨w.heap.size, 0, none⟩) 0 0) (ad : Option Addr) (m c : Nat) (b2 : List UInt8) (hx : a.eval x = .slice ad m c) (hb : Bs w ad m c b2)
    (hle : m ≤ 140737488355328) (hk : ∀ v' w', St B w0 w' (OwB v' b2 :: l) → K (a.put o.dst v') w') : o.wp Try.prog a (w.alloc (.cells #[] 5 (0, 0))) K Q := by
  have h1 : St B w0 (w.alloc (.cells #[] 5 (0, 0))) (OwB (.slice (some ⟨w.heap.size, 0, none⟩) 0 0) [] :: l) := h.addOwn ((Below.refl _ _).alloc (Nat.le_refl _) _) (own_empty w 5 1)
  exact app_st_at s x ho h1 0 rfl hs ad m c b2 hx (hb.below ((Below.refl _ _).alloc (Nat.le_refl _) _)) (by simpa using hle) fun v' w' h2 => hk v' w' h2
theorem app_st_new {ops : Array Oper} {rest : List Oper} {o : Oper} {a : Act} {Q : Exit → Act → World → Prop} (hgd : Region.wanted o (yielded ops a.tmps) = true) (s x : Operand)
    (ho : o.op = .call { callee := .builtin .append, args := #[s, x], argTypes := #[31, 31] })
    (h : St B w0 w l) (hs : a.eval s = .slice (some ⟨w.heap.size, 0, none⟩) 0 0) (ad : Option Addr) (m c : Nat) (b2 : List UInt8) (hx : a.eval x = .slice ad m c) (hb : Bs w ad m c b2)
    (hle : m ≤ 140737488355328) (hk : ∀ v' w', St B w0 w' (OwB v' b2 :: l) → wpList Try.prog ops Q rest (a.put o.dst v') w') : wpList Try.prog ops Q (o :: rest) a (w.alloc (.cells #[] 5 (0, 0))) :=
  at_wanted hgd fun _ hK => app_st_new_at s x ho h hs ad m c b2 hx hb hle fun v' w' h1 => hK _ _ (hk v' w' h1)
/-- 'copy(to, b)', 'to' a row of one's own. -/
theorem copy_st {ops : Array Oper} {rest : List Oper} {o : Oper} {a : Act} {Q : Exit → Act → World → Prop} (hgd : o.guard = none) (x y : Operand)
    (ho : o.op = .call { callee := .builtin .copy, args := #[x, y], argTypes := #[31, 31] })
    (h : St B w0 w l) (i : Nat) (hi : l[i]? = some (OwB v b)) (hx : a.eval x = v) (ad : Option Addr) (m c : Nat) (b2 : List UInt8) (hy : a.eval y = .slice ad m c) (hb : Bs w ad m c b2) (h0 : 0 < m) (hb0 : 0 < b.length) (k : Nat) (hk0 : k = min m b.length)
    (hk : ∀ w', St B w0 w' (l.set i (OwB v (b2.take k ++ b.drop k))) → wpList Try.prog ops Q rest (a.put o.dst (.int .i64 k)) w') : wpList Try.prog ops Q (o :: rest) a w := by
  have hbl := hb.len
  obtain ⟨b0, o0, rfl, _⟩ := Sl.some hb (by omega) (by decide)
  have hlk : ((b2.take k).map bv).length = k := by rw [List.length_map, List.length_take]; omega
  have hown := h.own hi
  obtain ⟨g, cap, _, rfl, _⟩ := own_some hown (by rw [List.length_map]; exact hb0)
  obtain ⟨cur, hg, hc, h1⟩ := own_splice hown 0 ((b2.take k).map bv) (by omega)
  have hkp := setRow_keep (cur.toList.take 0 ++ (b2.take k).map bv ++ cur.toList.drop (0 + ((b2.take k).map bv).length)).toArray hg
  have hrun := run_copy_row (P := Try.prog) w 31 31 o.type 5 g 0 b.length cap ⟨b0, o0, none⟩ m c cur 5 ((b2.take k).map bv) Try.underlying31 (by kernel_rfl) hg (by rw [hlk]; exact hk0) (fun j v hj => by
    have hj2 : (b2.map bv)[j]? = some v := by
      rw [List.map_take, List.getElem?_take] at hj
      split at hj
      · exact hj
      · cases hj
    obtain ⟨b1, o1, e1, hc1⟩ := Sl.cells hb j v hj2
    cases e1
    rw [add_none']; exact hc1) (by omega) (bv_one _)
  have hst := hk _ (by
    have := h.ownTo hi _ _ _ _ h1 (hkp.mono fun x _ hx => by rw [hx]; rfl) (.inl rfl)
    rw [List.take_zero, List.nil_append, hlk, Nat.zero_add] at this
    unfold OwB
    rw [List.map_append, List.map_drop, List.length_append, List.length_take, List.length_drop, show min k b2.length + (b.length - k) = b.length by omega]
    exact this)
  refine wpList_plain hgd fun K hK => ?_
  unfold Oper.wp execOp
  simp only [ho, resolve, invoke, builtin, Sem.run_bind, Sem.run_pure, Result.andThen_ok, List.map_toArray, List.map_cons, List.map_nil, hx, hy, hrun]
  refine hK _ _ ?_
  have hkm : min k b2.length = k := by omega
  simpa [goInt, hlk, hkm] using hst
end
end
end Go.Proofs.Ytjijniillehfoaa
