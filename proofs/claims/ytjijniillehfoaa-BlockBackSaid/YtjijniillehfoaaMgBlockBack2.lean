/- Texts of the proof of 'BlockBack', part 2: words on memory, contracts of functions, plain laws. No condition. -/
import Derived.Test.YtjijniillehfoaaMgBlockBack1
import Derived.WalkKit
/- Bytes of one's own beside whatever else there is: rules for walks. -/
namespace Go.Own
open Go Go.RowKit
/-- 'b[i:]', whatever the world. -/
theorem piece_fromA {P : Program} {t e : TypeId} (ht : P.underlying t = some (.slice e)) (he : (P.info? e).map (·.size) = some 1) {w : World} {a : Option Addr} {n c : Nat} {l : List UInt8} (h : Bs w a n c l) (k : IntKind) (I : Int) (i : Nat) (hI : I = i) (hi : i ≤ n) :
    ∃ a' c', (∀ W : World, (Instr.sliceAt t (.slice a n c) (some (.int k I)) none none).run P W = .ok (.slice a' (n - i) c') W) ∧ ∀ w, Bs w a n c l → Bs w a' (n - i) c' (l.drop i) := by
  subst hI
  have hc := Sl.cap h; have hr := Sl.room h
  refine ⟨if c = i then a else a.map (·.add i), c - i, fun W => ?_, fun w h => ?_⟩
  · rw [run_sliceAt_slice W t _ _ _ _ (by rw [elem_eq ht]; exact ht), run_slice_l W t a n c (by rw [elem_eq ht]; exact ht) k i (by omega) (by omega), elem_eq ht, run_size1 he]
    simp [Result.andThen, sliced]
  · have hl := h.len
    have hx := h.cutIf i n hi (Nat.le_refl _)
    rw [List.take_of_length_le (by omega)] at hx
    exact hx
/-- 'b[i:j]', whatever the world. -/
theorem pieceA {P : Program} {t e : TypeId} (ht : P.underlying t = some (.slice e)) (he : (P.info? e).map (·.size) = some 1) {w : World} {a : Option Addr} {n c : Nat} {l : List UInt8} (h : Bs w a n c l) (k k' : IntKind) (I J : Int) (i j : Nat) (hI : I = i) (hJ : J = j) (hij : i ≤ j) (hj : j ≤ n) :
    ∃ a' c', (∀ W : World, (Instr.sliceAt t (.slice a n c) (some (.int k I)) (some (.int k' J)) none).run P W = .ok (.slice a' (j - i) c') W) ∧ ∀ w, Bs w a n c l → Bs w a' (j - i) c' ((l.take j).drop i) := by
  subst hI; subst hJ
  have hc := Sl.cap h; have hr := Sl.room h
  refine ⟨_, _, fun W => ?_, fun w h => h.cutIf i j hij hj⟩
  rw [run_sliceAt_slice W t _ _ _ _ (by rw [elem_eq ht]; exact ht), run_slice_lh W t a n c (by rw [elem_eq ht]; exact ht) k k' i j (by omega) (by omega) (by omega), elem_eq ht, run_size1 he]
  simp [Result.andThen, sliced]
/-- 'b[:j]', whatever the world. -/
theorem piece_toA {P : Program} {t e : TypeId} (ht : P.underlying t = some (.slice e)) (he : (P.info? e).map (·.size) = some 1) {w : World} {a : Option Addr} {n c : Nat} {l : List UInt8} (h : Bs w a n c l) (k : IntKind) (J : Int) (j : Nat) (hJ : J = j) (hj : j ≤ n) :
    ∃ a' c', (∀ W : World, (Instr.sliceAt t (.slice a n c) none (some (.int k J)) none).run P W = .ok (.slice a' j c') W) ∧ ∀ w, Bs w a n c l → Bs w a' j c' (l.take j) := by
  subst hJ
  have hc := Sl.cap h; have hr := Sl.room h
  refine ⟨if c = 0 then a else a.map (·.add 0), c, fun W => ?_, fun w h => ?_⟩
  · rw [run_sliceAt_slice W t _ _ _ _ (by rw [elem_eq ht]; exact ht), run_slice_h W t a n c (by rw [elem_eq ht]; exact ht) k j (by omega) (by omega), elem_eq ht, run_size1 he]
    simp [Result.andThen, sliced]
  · have hx := h.cutIf 0 j (Nat.zero_le _) hj
    simp only [Nat.sub_zero, List.drop_zero] at hx
    exact hx
section
variable {B : Nat} {w0 w : World} {l : List Ob} {i : Nat}
theorem St.ownTo {e : TypeId} {z : Nat} {v : Value} {n : Nat} {cs : List Value} (h : St B w0 w l) (hi : l[i]? = some (OwO e z v n cs)) (w' : World) (v' : Value) (n' : Nat) (cs' : List Value)
    (hp : w'.ownsRow 0 e z v' n' cs') (k : Keep (fun k => v.ownBlock = some k) w w') (hv : v'.ownBlock = v.ownBlock ∨ v'.ownBlock = some w.heap.size) : St B w0 w' (l.set i (OwO e z v' n' cs')) := by
  obtain ⟨F, ⟨h1, h2, h3⟩, _, _, h4⟩ := h.at hi
  refine h4 w' (fun x => v'.ownBlock = some x) _ rfl (k.mono fun x _ hx => h2 x hx) ⟨hp, fun _ h => h, fun x hx => (own_block_lt hp hx).2⟩ fun x hx => ?_
  rcases hv with hv | hv
  · exact .inl (h2 _ (by rw [← hv]; exact hx))
  · rw [hv] at hx; cases hx; exact .inr (Nat.le_refl _)
theorem St.bsOwn {e : TypeId} {v : Value} {n : Nat} {b : List UInt8} (h : St B w0 w l) (hi : l[i]? = some (OwO e 1 v n (b.map bv))) : ∃ a c, v = .slice a n c ∧ Bs w a n c b := by
  obtain ⟨a, c, e1, _, hb⟩ := Sl.of_owned (h.own hi)
  exact ⟨a, c, e1, hb⟩
theorem set_same {P : Ob} (hi : l[i]? = some P) : l.set i P = l := by
  obtain ⟨hlt, e⟩ := List.getElem?_eq_some_iff.1 hi
  rw [← e]; exact List.set_getElem_self hlt
end
end Go.Own
namespace Go.Proofs.Ytjijniillehfoaa
open Go Go.RowKit Go.Own
set_option linter.unusedVariables false
section
variable {B : Nat} {w0 w : World} {l : List Ob}
/-- 'make([]byte, n)'. -/
theorem mk_st (h : St B w0 w l) (m : Int) (n : Nat) (hm : m = n) (hn : n ≤ 281474976710656) :
    ∃ g W, (Instr.makeSlice 31 (.int .i64 m) (.int .i64 m)).run Try.prog w = .ok (.slice (some ⟨g, 0, none⟩) n n) W ∧ St B w0 W (OwB (.slice (some ⟨g, 0, none⟩) n n) (List.replicate n 0) :: l) := by
  refine ⟨_, _, mkBytes w m n hm hn, ?_⟩
  have ho : (w.alloc (.cells ((List.replicate n (0 : UInt8)).map bv).toArray 5 (0, 0))).ownsRow w.heap.size 5 1 (.slice (some ⟨w.heap.size, 0, none⟩) n n) n ((List.replicate n (0 : UInt8)).map bv) :=
    ⟨by simp, .inr ⟨w.heap.size, n, _, rfl, Nat.le_refl _, by show (w.heap.push _)[w.heap.size]? = _; simp, Nat.le_refl _, Nat.le_trans hn (by decide), by simp, List.take_of_length_le (by simp)⟩⟩
  have hs := h.addOwn ((Below.refl _ _).alloc (Nat.le_refl _) (.cells ((List.replicate n (0 : UInt8)).map bv).toArray 5 (0, 0))) ho
  unfold OwB
  rw [List.length_replicate]
  exact hs
section
variable {v : Value} {b : List UInt8}
theorem app_st_at {o : Oper} {a : Act} {K : Act → World → Prop} {Q : Exit → Act → World → Prop} (s x : Operand)
    (ho : o.op = .call { callee := .builtin .append, args := #[s, x], argTypes := #[31, 31] })
    (h : St B w0 w l) (i : Nat) (hi : l[i]? = some (OwB v b)) (hs : a.eval s = v) (ad : Option Addr) (m c : Nat) (b2 : List UInt8) (hx : a.eval x = .slice ad m c) (hb : Bs w ad m c b2)
    (hle : b.length + m ≤ 140737488355328) (hk : ∀ v' w', St B w0 w' (l.set i (OwB v' (b ++ b2))) → K (a.put o.dst v') w') : o.wp Try.prog a w K Q := by
  have hm := hb.len
  refine app_at s x 31 ho 0 5 (.int .u8 0) 1 1 Try.underlying31 info_u8 rfl (by decide) v b.length (b.map bv) hs (h.own hi) ad m c (b2.map bv) hx hb (bv_one _) (by omega) (by omega) (Nat.zero_le _) fun v' w' h1 h2 h3 => hk v' w' ?_
  have := h.ownTo hi w' v' _ _ h1 h2 h3
  unfold OwB
  rw [List.length_append, List.map_append, ← hm]; exact this
theorem app_st {ops : Array Oper} {rest : List Oper} {o : Oper} {a : Act} {Q : Exit → Act → World → Prop} (hgd : Region.wanted o (yielded ops a.tmps) = true) (s x : Operand)
    (ho : o.op = .call { callee := .builtin .append, args := #[s, x], argTypes := #[31, 31] })
    (h : St B w0 w l) (i : Nat) (hi : l[i]? = some (OwB v b)) (hs : a.eval s = v) (ad : Option Addr) (m c : Nat) (b2 : List UInt8) (hx : a.eval x = .slice ad m c) (hb : Bs w ad m c b2)
    (hle : b.length + m ≤ 140737488355328) (hk : ∀ v' w', St B w0 w' (l.set i (OwB v' (b ++ b2))) → wpList Try.prog ops Q rest (a.put o.dst v') w') : wpList Try.prog ops Q (o :: rest) a w :=
  at_wanted hgd fun _ hK => app_st_at s x ho h i hi hs ad m c b2 hx hb hle fun v' w' h1 => hK _ _ (hk v' w' h1)
/-- 'append([]byte{}, b...)'. -/
theorem app_st_new_at {o : Oper} {a : Act} {K : Act → World → Prop} {Q : Exit → Act → World → Prop} (s x : Operand)
    (ho : o.op = .call { callee := .builtin .append, args := #[s, x], argTypes := #[31, 31] })
    (h : St B w0 w l) (hs : a.eval s = .slice (some ⟨w.heap.size, 0, none⟩) 0 0) (ad : Option Addr) (m c : Nat) (b2 : List UInt8) (hx : a.eval x = .slice ad m c) (hb : Bs w ad m c b2)
    (hle : m ≤ 140737488355328) (hk : ∀ v' w', St B w0 w' (OwB v' b2 :: l) → K (a.put o.dst v') w') : o.wp Try.prog a (w.alloc (.cells #[] 5 (0, 0))) K Q := by
  have h1 : St B w0 (w.alloc (.cells #[] 5 (0, 0))) (OwB (.slice (some ⟨w.heap.size, 0, none⟩) 0 0) [] :: l) := h.addOwn ((Below.refl _ _).alloc (Nat.le_refl _) _) (own_empty w 5 1)
  exact app_st_at s x ho h1 0 rfl hs ad m c b2 hx (hb.below ((Below.refl _ _).alloc (Nat.le_refl _) _)) (by simpa using hle) fun v' w' h2 => hk v' w' h2
theorem app_st_new {ops : Array Oper} {rest : List Oper} {o : Oper} {a : Act} {Q : Exit → Act → World → Prop} (hgd : Region.wanted o (yielded ops a.tmps) = true) (s x : Operand)
    (ho : o.op = .call { callee := .builtin .append, args := #[s, x], argTypes := #[31, 31] })
    (h : St B w0 w l) (hs : a.eval s = .slice (some ⟨w.heap.size, 0, none⟩) 0 0) (ad : Option Addr) (m c : Nat) (b2 : List UInt8) (hx : a.eval x = .slice ad m c) (hb : Bs w ad m c b2)
    (hle : m ≤ 140737488355328) (hk : ∀ v' w', St B w0 w' (OwB v' b2 :: l) → wpList Try.prog ops Q rest (a.put o.dst v') w') : wpList Try.prog ops Q (o :: rest) a (w.alloc (.cells #[] 5 (0, 0))) :=
  at_wanted hgd fun _ hK => app_st_new_at s x ho h hs ad m c b2 hx hb hle fun v' w' h1 => hK _ _ (hk v' w' h1)
/-- 'copy(to, b)', 'to' a row of one's own. -/
theorem copy_st {ops : Array Oper} {rest : List Oper} {o : Oper} {a : Act} {Q : Exit → Act → World → Prop} (hgd : o.guard = none) (x y : Operand)
    (ho : o.op = .call { callee := .builtin .copy, args := #[x, y], argTypes := #[31, 31] })
    (h : St B w0 w l) (i : Nat) (hi : l[i]? = some (OwB v b)) (hx : a.eval x = v) (ad : Option Addr) (m c : Nat) (b2 : List UInt8) (hy : a.eval y = .slice ad m c) (hb : Bs w ad m c b2) (h0 : 0 < m) (hb0 : 0 < b.length) (k : Nat) (hk0 : k = min m b.length)
    (hk : ∀ w', St B w0 w' (l.set i (OwB v (b2.take k ++ b.drop k))) → wpList Try.prog ops Q rest (a.put o.dst (.int .i64 k)) w') : wpList Try.prog ops Q (o :: rest) a w := by
  have hbl := hb.len
  obtain ⟨b0, o0, rfl, _⟩ := Sl.some hb (by omega) (by decide)
  have hlk : ((b2.take k).map bv).length = k := by rw [List.length_map, List.length_take]; omega
  have hown := h.own hi
  obtain ⟨g, cap, _, rfl, _⟩ := own_some hown (by rw [List.length_map]; exact hb0)
  obtain ⟨cur, hg, hc, h1⟩ := own_splice hown 0 ((b2.take k).map bv) (by omega)
  have hkp := setRow_keep (cur.toList.take 0 ++ (b2.take k).map bv ++ cur.toList.drop (0 + ((b2.take k).map bv).length)).toArray hg
  have hrun := run_copy_row (P := Try.prog) w 31 31 o.type 5 g 0 b.length cap ⟨b0, o0, none⟩ m c cur 5 ((b2.take k).map bv) Try.underlying31 (by kernel_rfl) hg (by rw [hlk]; exact hk0) (fun j v hj => by
    have hj2 : (b2.map bv)[j]? = some v := by
      rw [List.map_take, List.getElem?_take] at hj
      split at hj
      · exact hj
      · cases hj
    obtain ⟨b1, o1, e1, hc1⟩ := Sl.cells hb j v hj2
    cases e1
    rw [add_none']; exact hc1) (by omega) (bv_one _)
  have hst := hk _ (by
    have := h.ownTo hi _ _ _ _ h1 (hkp.mono fun x _ hx => by rw [hx]; rfl) (.inl rfl)
    rw [List.take_zero, List.nil_append, hlk, Nat.zero_add] at this
    unfold OwB
    rw [List.map_append, List.map_drop, List.length_append, List.length_take, List.length_drop, show min k b2.length + (b.length - k) = b.length by omega]
    exact this)
  refine wpList_plain hgd fun K hK => ?_
  unfold Oper.wp execOp
  simp only [ho, resolve, invoke, builtin, Sem.run_bind, Sem.run_pure, Result.andThen_ok, List.map_toArray, List.map_cons, List.map_nil, hx, hy, hrun]
  refine hK _ _ ?_
  have hkm : min k b2.length = k := by omega
  simpa [goInt, hlk, hkm] using hst
end
end
end Go.Proofs.Ytjijniillehfoaa

/- Variables of a struct type, lists of structs, beside whatever else there is: rules for walks. -/
namespace Go.Own
open Go Go.RowKit
theorem results_row2 {P : Program} {fn : Func} {p u : Tmp} {ty : TypeId} (h : fn.results = #[.cell p ty, .tmp u]) (tmps : Array Value) (w : World) (g : Nat) (t : TypeId) (cs : List Value) (d : TypeDesc)
    (hp : tmps.getD p undef = .pointer (some ⟨g, 0, none⟩)) (hg : Row w g t cs)
    (hu : P.underlying ty = some d) (hd : (match d with | .struct _ | .array _ _ => true | _ => false) = true) (hi : (P.info? ty).map (·.size) = some cs.length) :
    (results fn tmps).run P w = .ok (.tuple #[.agg cs.toArray, tmps.getD u undef]) w := by
  have hp' : tmps[p]?.getD undef = .pointer (some ⟨g, 0, none⟩) := by simpa using hp
  simp [results, h, hp', asAddr, run_loadVar_row w g t ty cs.toArray (0, 0) d hg hu hd (by simpa using hi)]
section
variable {B : Nat} {w0 w : World} {l : List Ob} {i : Nat} {g : Nat} {e : TypeId} {cs : List Value}
theorem St.rowTo (h : St B w0 w l) (hi : l[i]? = some (RowO g e cs)) (w' : World) (cs' : List Value) (hp : Row w' g e cs') (k : Keep (· = g) w w') : St B w0 w' (l.set i (RowO g e cs')) := by
  obtain ⟨F, ⟨h1, h2, h3⟩, _, _, h4⟩ := h.at hi
  exact h4 w' (fun x => x = g) _ rfl (k.mono fun x _ hx => by rw [hx]; exact h2) ⟨hp, rfl, fun x hx => by rw [hx]; exact hp.lt⟩ fun x hx => .inl (by rw [hx]; exact h2)
section
variable {P : Program} {ops : Array Oper} {rest : List Oper} {o : Oper} {a : Act} {Q : Exit → Act → World → Prop}
theorem alloc_st (h : St B w0 w l) (hgd : o.guard = none) (t : TypeId) (ho : o.op = .alloc t) (z : Value) (s b : Nat) (hi : Info P t z s b) (cs : List Value) (hc : z.cells = cs.toArray)
    (hk : ∀ g w', St B w0 w' (RowO g t cs :: l) → wpList P ops Q rest (a.put o.dst (.pointer (some ⟨g, 0, none⟩))) w') : wpList P ops Q (o :: rest) a w :=
  alloc_row hgd t ho z s b hi cs hc (hk _ _ (h.addRow t cs))
theorem store_st (h : St B w0 w l) (i : Nat) {g : Nat} {e : TypeId} {old : List Value} (hi : l[i]? = some (RowO g e old)) (hgd : o.guard = none) (t : TypeId) (x y : Operand) (ho : o.op = .store t x y)
    (hx : a.eval x = .pointer (some ⟨g, 0, none⟩)) (cs : List Value) (hy : a.eval y = .agg cs.toArray) (hs : (P.info? t).map (·.size) = some cs.length) (hl : old.length = cs.length)
    (h1 : ∀ u ∈ cs, u.oneCell' = true) (hk : ∀ w', St B w0 w' (l.set i (RowO g e cs)) → wpList P ops Q rest (a.put o.dst undef) w') : wpList P ops Q (o :: rest) a w :=
  store_row hgd t x y ho g hx cs hy e old (h.row hi) hs hl h1 fun w' hr k => hk w' (h.rowTo hi w' cs hr k)
theorem load_st (h : St B w0 w l) (i : Nat) {g : Nat} {e : TypeId} {cs : List Value} (hi : l[i]? = some (RowO g e cs)) (hgd : o.guard = none) (t : TypeId) (x : Operand) (ho : o.op = .load t x)
    (hx : a.eval x = .pointer (some ⟨g, 0, none⟩)) (d : TypeDesc) (hu : P.underlying t = some d) (hd : (match d with | .struct _ | .array _ _ => true | _ => false) = true) (hs : (P.info? t).map (·.size) = some cs.length)
    (hk : wpList P ops Q rest (a.put o.dst (.agg cs.toArray)) w) : wpList P ops Q (o :: rest) a w :=
  load_row hgd t x ho g hx e cs d (h.row hi) hu hd hs hk
end
end
/-- A block's cells. -/
def blC (x : Blk) : List Value := [.int .i64 x.off, .int .i64 x.size, .bool x.used]
theorem blC_len (x : Blk) : (blC x).length = 3 := rfl
theorem blC_one (x : Blk) : ∀ u ∈ blC x, u.oneCell' = true := by
  intro u hu
  simp only [blC, List.mem_cons, List.not_mem_nil, or_false] at hu
  rcases hu with rfl | rfl | rfl <;> rfl
end Go.Own
namespace Go.Proofs.Ytjijniillehfoaa
open Go Go.RowKit Go.Own
set_option linter.unusedVariables false
theorem info_bl : Info Try.prog 77 (.agg #[.int .i64 0, .int .i64 0, .bool false]) 3 24 := by unfold Info; kernel_rfl
theorem size_bl : (Try.prog.info? 77).map (·.size) = some 3 := by kernel_rfl
/-- A block as a function tells it. -/
def bkV : Option Blk → Value
  | none => .agg #[.int .i64 0, .int .i64 0, .bool false]
  | some x => .agg #[.int .i64 x.off, .int .i64 x.size, .bool x.used]
/-- A variable that holds a block. -/
abbrev BkO (g : Nat) (o s : Int) (u : Bool) : Ob := RowO g 77 [.int .i64 o, .int .i64 s, .bool u]
/-- A list of blocks of one's own. -/
abbrev BlsO (v : Value) (L : List Blk) : Ob := OwO 77 3 v L.length (L.map blC).flatten
section
variable {B : Nat} {w0 w : World} {l : List Ob} {ops : Array Oper} {rest : List Oper} {o : Oper} {a : Act} {Q : Exit → Act → World → Prop}
theorem bk_alloc (h : St B w0 w l) (hgd : o.guard = none) (ho : o.op = .alloc 77)
    (hk : ∀ g w', St B w0 w' (BkO g 0 0 false :: l) → wpList Try.prog ops Q rest (a.put o.dst (.pointer (some ⟨g, 0, none⟩))) w') : wpList Try.prog ops Q (o :: rest) a w :=
  alloc_st h hgd _ ho _ _ _ info_bl [.int .i64 0, .int .i64 0, .bool false] rfl hk
theorem bk_store (h : St B w0 w l) (i : Nat) {g : Nat} {p q : Int} {r : Bool} (hi : l[i]? = some (BkO g p q r)) (hgd : o.guard = none) (x y : Operand) (ho : o.op = .store 77 x y)
    (hx : a.eval x = .pointer (some ⟨g, 0, none⟩)) (p' q' : Int) (r' : Bool) (hy : a.eval y = .agg #[.int .i64 p', .int .i64 q', .bool r'])
    (hk : ∀ w', St B w0 w' (l.set i (BkO g p' q' r')) → wpList Try.prog ops Q rest (a.put o.dst undef) w') : wpList Try.prog ops Q (o :: rest) a w :=
  store_st h i hi hgd _ x y ho hx [.int .i64 p', .int .i64 q', .bool r'] hy size_bl rfl (by simp [Value.oneCell']) hk
theorem bk_load (h : St B w0 w l) (i : Nat) {g : Nat} {p q : Int} {r : Bool} (hi : l[i]? = some (BkO g p q r)) (hgd : o.guard = none) (x : Operand) (ho : o.op = .load 77 x)
    (hx : a.eval x = .pointer (some ⟨g, 0, none⟩)) (hk : wpList Try.prog ops Q rest (a.put o.dst (.agg #[.int .i64 p, .int .i64 q, .bool r])) w) : wpList Try.prog ops Q (o :: rest) a w :=
  load_st h i hi hgd _ x ho hx _ Try.underlying77 rfl size_bl hk
/-- The same, in an operation that hangs on another one. -/
theorem bk_loadg (h : St B w0 w l) (i : Nat) {g : Nat} {p q : Int} {r : Bool} (hi : l[i]? = some (BkO g p q r)) (hgd : Region.wanted o (yielded ops a.tmps) = true) (x : Operand) (ho : o.op = .load 77 x)
    (hx : a.eval x = .pointer (some ⟨g, 0, none⟩)) (hk : wpList Try.prog ops Q rest (a.put o.dst (.agg #[.int .i64 p, .int .i64 q, .bool r])) w) : wpList Try.prog ops Q (o :: rest) a w :=
  at_wanted hgd fun _ hK => wp_load_row 77 x ho g hx 77 #[.int .i64 p, .int .i64 q, .bool r] (0, 0) _ (h.row hi) Try.underlying77 rfl size_bl (hK _ _ hk)
/-- 'append(l, x)'. -/
theorem bls_app (h : St B w0 w l) (i : Nat) {v : Value} {L : List Blk} (hi : l[i]? = some (BlsO v L)) (hgd : Region.wanted o (yielded ops a.tmps) = true) (s x : Operand)
    (ho : o.op = .call { callee := .builtin .append, args := #[s, x], argTypes := #[75, 75] }) (hs : a.eval s = v) (p q : Int) (r : Bool) (y : Blk) (hp : p = y.off) (hq : q = y.size) (hr : r = y.used)
    (hx : a.eval x = .slice (some ⟨w.heap.size, 0, none⟩) 1 1) (hL : L.length ≤ 1000000)
    (hk : ∀ v' w', St B w0 w' (l.set i (BlsO v' (L ++ [y]))) → wpList Try.prog ops Q rest (a.put o.dst v') w') : wpList Try.prog ops Q (o :: rest) a (w.alloc (.cells #[.int .i64 p, .int .i64 q, .bool r] 77 (0, 0))) := by
  subst hp; subst hq; subst hr
  have h' := h.alloc (.cells #[.int .i64 y.off, .int .i64 y.size, .bool y.used] 77 (0, 0))
  refine app_in hgd s x 75 ho 0 77 _ 3 24 Try.underlying75 info_bl rfl (by decide) v L.length _ hs (h'.own hi) _ 1 1 (blC y) hx (Sl.lit w 77 (blC y) 1 3 rfl (by decide)) (blC_one y) (by omega) (by omega) (Nat.zero_le _) fun v' w' h1 h2 h3 => hk v' w' ?_
  have := h'.ownTo hi w' v' _ _ h1 h2 h3
  unfold BlsO
  rw [List.length_append, List.map_append, List.flatten_append]
  simpa using this
end
end Go.Proofs.Ytjijniillehfoaa

namespace Go.Proofs.Ytjijniillehfoaa
open Go Go.RowKit Go.Own
set_option linter.unusedVariables false
theorem rem16 (s : Int) (h : 0 ≤ s) : s.tmod 16 = s % 16 := Int.tmod_eq_emod_of_nonneg h
theorem ref_IsSize (w : World) (s : Int) : Calls Try.prog 160 #[.int .i64 s] w fun e w' => e = .returned (.bool (isSize s)) ∧ w = w' := by
  by_cases h1 : 32 ≤ s
  · by_cases h2 : s ≤ 16384
    · go_enter Try.func160, Try.ntmps160
      go_wp2
      go_ret
      refine ⟨rB ?_, rfl⟩
      simp [isSize, h1, h2, Bool.beq_eq_decide_eq]
    · go_enter Try.func160, Try.ntmps160
      go_wp2
      go_ret
      exact ⟨rB (isSize_no (by omega)).symm, rfl⟩
  · go_enter Try.func160, Try.ntmps160
    go_wp2
    go_ret
    exact ⟨rB (isSize_no (by omega)).symm, rfl⟩
theorem tag_Pack (w : World) (s : Int) (u : Bool) : Calls Try.prog 154 #[.int .i64 s, .bool u] w fun e w' => e = .returned (.int .u64 (tagOf s u)) ∧ w = w' := by
  by_cases h : isSize s = true
  · have h' := (isSize_iff s).1 h
    obtain ⟨h1, h2, h3⟩ := h'
    have hor := or1 s (by omega) (by omega) (by omega)
    have hne : (s % 16 != 0) = false := by rw [bne_eq_false_iff_eq]; exact h3
    have ht : tagOf s u = if u then s + 1 else s := by unfold tagOf; rw [h]; rfl
    have HT := Lib.hid ht
    clear ht h h3
    cases u with
    | true =>
      go_enter Try.func154, Try.ntmps154
      go_wp2
      go_ret
      exact ⟨rI (by rw [HT.out]; rfl), rfl⟩
    | false =>
      go_enter Try.func154, Try.ntmps154
      go_wp2
      go_ret
      exact ⟨rI (by rw [HT.out]; rfl), rfl⟩
  · have hn : s < 32 ∨ 16384 < s ∨ (32 ≤ s ∧ s ≤ 16384 ∧ (s % 16 != 0) = true) := by
      have h4 : ¬ (32 ≤ s ∧ s ≤ 16384 ∧ s % 16 = 0) := fun hh => h (isSize_yes hh)
      rw [bne_iff_ne]; omega
    have ht : tagOf s u = 0 := by unfold tagOf; rw [Bool.not_eq_true] at h; rw [h]; rfl
    have HT := Lib.hid ht
    clear ht h
    rcases hn with hn | hn | ⟨h1, h2, h3⟩
    all_goals
      go_enter Try.func154, Try.ntmps154
      go_wp2
      go_ret
      exact ⟨rI HT.out.symm, rfl⟩
theorem ref_Pack (w : World) (s : Int) (u : Bool) : Calls Try.prog 161 #[.int .i64 s, .bool u] w fun e w' => e = .returned (.int .u64 (tagOf s u)) ∧ w = w' := by
  cases h : isSize s with
  | true =>
    have h' := (isSize_iff s).1 h
    obtain ⟨h1, h2, h3⟩ := h'
    have ht : tagOf s u = if u then s + 1 else s := by unfold tagOf; rw [h]; rfl
    have k := ref_IsSize w s
    rw [h] at k
    have K := Lib.hid k
    have HT := Lib.hid ht
    clear ht h h3 k
    cases u with
    | true =>
      go_enter Try.func161, Try.ntmps161
      go_wp2_with fail
      refine K.out.mono ?_
      rintro e w' ⟨rfl, rfl⟩
      go_wp2
      go_ret
      exact ⟨rI (by rw [HT.out]; rfl), rfl⟩
    | false =>
      go_enter Try.func161, Try.ntmps161
      go_wp2_with fail
      refine K.out.mono ?_
      rintro e w' ⟨rfl, rfl⟩
      go_wp2
      go_ret
      exact ⟨rI (by rw [HT.out]; rfl), rfl⟩
  | false =>
    have ht : tagOf s u = 0 := tagOf_zero.2 h
    have k := ref_IsSize w s
    rw [h] at k
    have K := Lib.hid k
    have HT := Lib.hid ht
    clear ht h k
    go_enter Try.func161, Try.ntmps161
    go_wp2_with fail
    refine K.out.mono ?_
    rintro e w' ⟨rfl, rfl⟩
    go_wp2
    go_ret
    exact ⟨rI HT.out.symm, rfl⟩

theorem tag_Unpack (w : World) (v : Int) (h0 : 0 ≤ v) (h1 : v ≤ 18446744073709551615) :
    Calls Try.prog 156 #[.int .u64 v] w fun e w' => e = .returned (.tuple #[.int .i64 (tagS v), .bool (tagU v), .bool (isTag v)]) ∧ w = w' := by
  have e1 := low_eq v h0 h1
  have e2 := odd_eq v h0 h1
  have hw := wrapI64 (n := v % 65536 - v % 2) (by omega) (by omega)
  by_cases hz : v = 0
  · subst hz
    go_enter Try.func156, Try.ntmps156
    go_wp2
    go_ret3
    exact ⟨by rw [show tagS 0 = 0 from by decide, show tagU 0 = false from by decide, show isTag 0 = false from by decide]; rfl, rfl⟩
  · have hz' : (v == 0) = false := by rw [beq_eq_false_iff_ne]; exact hz
    have hq := (unpack_eq v h0).resolve_right hz
    cases ht : isTag v with
    | true =>
      rw [ht] at hq
      have hs : v % 65536 - v % 2 = tagS v := by have := isTag_rng ht; unfold tagS; rw [ht]; simp; omega
      have hu : (v % 2 == 1) = tagU v := by unfold tagU; rw [ht]; rw [Bool.eq_iff_iff]; simp
      have HS := Lib.hid hs; have HU := Lib.hid hu
      clear hs hu ht hz
      go_enter Try.func156, Try.ntmps156
      go_wp2_with fail
      with_reducible refine (tag_Pack _ _ _).mono ?_
      rintro e w' ⟨rfl, rfl⟩
      go_wp2
      go_ret3
      exact ⟨by rw [← HS.out, ← HU.out]; rfl, rfl⟩
    | false =>
      rw [ht] at hq
      obtain ⟨n1, n2⟩ := noTag ht
      have N1 := Lib.hid n1; have N2 := Lib.hid n2
      clear n1 n2 ht hz
      go_enter Try.func156, Try.ntmps156
      go_wp2_with fail
      with_reducible refine (tag_Pack _ _ _).mono ?_
      rintro e w' ⟨rfl, rfl⟩
      go_wp2
      go_ret3
      exact ⟨by rw [N1.out, N2.out]; rfl, rfl⟩
theorem ref_Unpack (w : World) (v : Int) (h0 : 0 ≤ v) (h1 : v ≤ 18446744073709551615) :
    Calls Try.prog 159 #[.int .u64 v] w fun e w' => e = .returned (.tuple #[.int .i64 (tagS v), .bool (tagU v), .bool (isTag v)]) ∧ w = w' := by
  by_cases hb : 20000 < v
  · have ht : isTag v = false := by
      rw [← Bool.not_eq_true]; intro h; have := isTag_rng h; omega
    obtain ⟨n1, n2⟩ := noTag ht
    have HT := Lib.hid ht; have N1 := Lib.hid n1; have N2 := Lib.hid n2
    clear n1 n2 ht
    go_enter Try.func159, Try.ntmps159
    go_wp2
    go_ret3
    exact ⟨by rw [N1.out, N2.out, HT.out]; rfl, rfl⟩
  · have k := ref_IsSize w (v - v % 2)
    have hu : tagU v = (isTag v && (v % 2 == 1)) := by unfold tagU; congr 1
    have hd : isSize (v - v % 2) = isTag v := rfl
    rw [hd] at k
    clear hd
    cases ht : isTag v with
    | true =>
      rw [ht] at k hu
      have hs : v - v % 2 = tagS v := by unfold tagS; rw [ht]; rfl
      have K := Lib.hid k; have HS := Lib.hid hs; have HU := Lib.hid hu
      clear k hs hu ht
      go_enter Try.func159, Try.ntmps159
      go_wp2_with fail
      with_reducible refine K.out.mono ?_
      rintro e w' ⟨rfl, rfl⟩
      go_wp2
      go_ret3
      exact ⟨by rw [HU.out, ← HS.out]; rfl, rfl⟩
    | false =>
      rw [ht] at k
      obtain ⟨n1, n2⟩ := noTag ht
      have K := Lib.hid k; have N1 := Lib.hid n1; have N2 := Lib.hid n2
      clear k hu n1 n2 ht
      go_enter Try.func159, Try.ntmps159
      go_wp2_with fail
      with_reducible refine K.out.mono ?_
      rintro e w' ⟨rfl, rfl⟩
      go_wp2
      go_ret3
      exact ⟨by rw [N1.out, N2.out]; rfl, rfl⟩
end Go.Proofs.Ytjijniillehfoaa

/- Blocks of an arena: the program's calls. -/
namespace Go.Own
def blkI (b : List UInt8) (o : Int) : Option Blk := if 0 ≤ o then blkAt b o.toNat else none
def aheadI (b : List UInt8) (o : Int) : Option Blk := if 0 ≤ o then aheadB b o.toNat else none
theorem couldB_iff {b : List UInt8} {o s : Int} : couldB b o s = true ↔ 184 ≤ o ∧ o % 16 = 8 ∧ o ≤ b.length ∧ s ≤ b.length - o := by unfold couldB; exact decide_eq_true_iff
theorem couldB_no {b : List UInt8} {o s : Int} (h : ¬ (184 ≤ o ∧ o % 16 = 8 ∧ o ≤ b.length ∧ s ≤ b.length - o)) : couldB b o s = false := by unfold couldB; exact decide_eq_false h
theorem blkI_none {b : List UInt8} {o : Int} (h : couldB b o 32 = false) : blkI b o = none := by
  unfold blkI
  split
  · rename_i h0
    cases hx : blkAt b o.toNat with
    | none => rfl
    | some x =>
      obtain ⟨_, h1, h2, h3, _, _, h6, _⟩ := blkAt_some hx
      have : couldB b o 32 = true := couldB_iff.2 ⟨by omega, by omega, by omega, by omega⟩
      rw [this] at h; cases h
  · rfl
end Go.Own
namespace Go.Proofs.Ytjijniillehfoaa
open Go Go.RowKit Go.Own
set_option linter.unusedVariables false
set_option maxRecDepth 100000
def errO (x : Option Blk) : Value := match x with | none => .iface 183 (.int .i64 3) | some _ => .nilIface
section
variable {B : Nat} {w0 w : World} {l : List Ob} {i p : Nat} {A : Ar}
theorem ar_small (h : St B w0 w l) (hi : l[i]? = some (ArT p A)) : A.b.length ≤ 16384 ∧ A.base ≤ 4611686018427387904 := by
  obtain ⟨v, ha⟩ := h.ar hi
  have h1 := ha.hbase; have h2 := ha.hcap; have h3 := ha.hlen
  omega
theorem blk_fits (h : St B w0 w l) (hi : l[i]? = some (ArT p A)) (o s : Int) :
    Calls Try.prog 155 #[arP p, .int .i64 o, .int .i64 s] w fun e w' => e = .returned (.bool (couldB A.b o s)) ∧ w = w' := by
  have hsm := (ar_small h hi).1
  have KL := Lib.hid (ar_Len h hi)
  clear h hi
  by_cases g1 : 184 ≤ o
  · have ht := rem16 o (by omega)
    have d1 : decide (184 ≤ o) = true := decide_eq_true g1
    by_cases g2 : o % 16 = 8
    · have d2 : (o % 16 == 8) = true := by rw [beq_iff_eq]; exact g2
      by_cases g3 : o ≤ A.b.length
      · have d3 : decide (o ≤ (A.b.length : Int)) = true := decide_eq_true g3
        have e4 : IntKind.i64.wrap ((A.b.length : Int) - o) = (A.b.length : Int) - o := IntWalk.i64_in _ (by omega)
        have hc : couldB A.b o s = decide (s ≤ (A.b.length : Int) - o) := by
          unfold couldB; rw [decide_eq_decide]; omega
        rw [hc]
        clear g1 g2 hc
        go_enter Try.func155, Try.ntmps155
        go_wp2_with fail
        with_reducible refine KL.out.mono ?_
        rintro e w' ⟨rfl, rfl⟩
        go_wp2_with fail
        with_reducible refine KL.out.mono ?_
        rintro e w' ⟨rfl, rfl⟩
        go_wp2
        go_ret
        exact ⟨rfl, rfl⟩
      · have d3 : decide (o ≤ (A.b.length : Int)) = false := decide_eq_false g3
        rw [couldB_no (by omega)]
        clear g1 g2
        go_enter Try.func155, Try.ntmps155
        go_wp2_with fail
        with_reducible refine KL.out.mono ?_
        rintro e w' ⟨rfl, rfl⟩
        go_wp2
        go_ret
        exact ⟨rfl, rfl⟩
    · have d2 : (o % 16 == 8) = false := by rw [beq_eq_false_iff_ne]; exact g2
      rw [couldB_no (by omega)]
      clear g1
      go_enter Try.func155, Try.ntmps155
      go_wp2
      go_ret
      exact ⟨rfl, rfl⟩
  · have d1 : decide (184 ≤ o) = false := decide_eq_false g1
    rw [couldB_no (by omega)]
    go_enter Try.func155, Try.ntmps155
    go_wp2
    go_ret
    exact ⟨rfl, rfl⟩
end
end Go.Proofs.Ytjijniillehfoaa

/- Blocks of an arena: the program's Get and Ahead. -/
namespace Go.Proofs.Ytjijniillehfoaa
open Go Go.RowKit Go.Own
set_option linter.unusedVariables false
set_option maxRecDepth 100000
section
variable {B : Nat} {w0 w : World} {l : List Ob} {i p : Nat} {A : Ar}
set_option maxHeartbeats 4000000 in
theorem blk_Get (h : St B w0 w l) (hi : l[i]? = some (ArT p A)) (o : Int) :
    Calls Try.prog 64 #[arP p, .int .i64 o] w fun e w' => e = .returned (.tuple #[bkV (blkI A.b o), errO (blkI A.b o)]) ∧ St B w0 w' l := by
  obtain ⟨hsm, hbs⟩ := ar_small h hi
  have H := Lib.hid h; have HI := Lib.hid hi
  clear h hi
  by_cases hc : couldB A.b o 32 = true
  · obtain ⟨c1, c2, c3, c4⟩ := couldB_iff.1 hc
    obtain ⟨O, rfl⟩ := Int.eq_ofNat_of_zero_le (show 0 ≤ o by omega)
    have hgi : blkI A.b (O : Int) = blkAt A.b O := by unfold blkI; rw [if_pos (Int.natCast_nonneg _), Int.toNat_natCast]
    rw [hgi]
    have hw := numAt_lt A.b O
    obtain ⟨W, hW⟩ : ∃ W, W = numAt A.b O := ⟨_, rfl⟩
    rw [← hW] at hw
    have hO : O ≤ 16384 := by omega
    have hO2 : 184 ≤ O := by omega
    have HO := Lib.hid (And.intro c1 (And.intro c2 (And.intro c3 c4)))
    have HWE := Lib.hid hW
    clear c1 c2 c3 c4 hgi hW
    cases ht : isTag (W : Int) with
    | false =>
      have hn : blkAt A.b O = none := by
        unfold blkAt; rw [if_neg]; intro hh; rw [← HWE.out, ht] at hh; exact absurd hh.2.2.1 Bool.false_ne_true
      rw [hn]
      clear hn
      go_enter Try.func64, Try.ntmps64
      go_wp2_with (refine bk_alloc H.out rfl rfl ?_; intro g w1 h1; have H1 := Lib.hid h1; clear h1)
      have kc := blk_fits H1.out (i := i + 1) HI.out (O : Int) 32
      rw [hc] at kc
      with_reducible refine kc.mono ?_
      clear kc
      rintro e w' ⟨rfl, rfl⟩
      go_wp2_with fail
      have kc := ar_Base (p := p) (A := A) H1.out (i := i + 1) HI.out
      with_reducible refine kc.mono ?_
      clear kc
      rintro e w' ⟨rfl, rfl⟩
      go_wp2_with fail
      have kc := ar_WordAt H1.out (i := i + 1) HI.out ((A.base : Int) + O) O rfl (by have := HO.out; omega)
      rw [← HWE.out] at kc
      with_reducible refine kc.mono ?_
      clear kc
      rintro e w' ⟨rfl, rfl⟩
      go_wp2_with fail
      have kc := tag_Unpack w1 (W : Int) (Int.natCast_nonneg _) (by omega)
      rw [ht] at kc
      with_reducible refine kc.mono ?_
      clear kc
      rintro e w' ⟨rfl, rfl⟩
      clear ht hc
      go_wp2_with (refine bk_store H1.out 0 rfl rfl _ _ rfl rfl 0 0 false rfl ?_; intro w2 h2; have H2 := Lib.hid h2; clear h2)
      refine bodyPost_ret (results_row2 rfl _ _ g _ _ _ rfl (H2.out.row (i := 0) rfl) Try.underlying77 rfl size_bl) rfl ⟨rfl, H2.out.tail⟩
    | true =>
      obtain ⟨t1, t2, t3⟩ := tagS_isTag ht
      obtain ⟨S, hS⟩ := Int.eq_ofNat_of_zero_le (show 0 ≤ tagS W by omega)
      rw [hS] at t1 t2 t3
      have HT := Lib.hid (And.intro t1 (And.intro t2 t3))
      have hS2 : S ≤ 16384 := by omega
      have hSn : (tagS ((numAt A.b O : Nat) : Int)).toNat = S := by rw [← HWE.out, hS, Int.toNat_natCast]
      have HSN := Lib.hid hSn
      have HTT := Lib.hid ht
      have hb : blkAt A.b O = if O + S ≤ A.b.length ∧ numAt A.b (O + S - 8) = W then some ⟨O, S, tagU W⟩ else none := by
        have := HO.out
        unfold blkAt
        rw [hSn, ← HWE.out, ht]
        by_cases hh : O + S ≤ A.b.length ∧ numAt A.b (O + S - 8) = W
        · rw [if_pos ⟨by omega, by omega, rfl, hh⟩, if_pos hh]
        · rw [if_neg (fun h => hh h.2.2.2), if_neg hh]
      obtain ⟨R, hR⟩ : ∃ R, R = blkAt A.b O := ⟨_, rfl⟩
      rw [← hR]
      have HR := Lib.hid (hR.trans hb)
      clear hb t1 t2 t3 hSn hR
      go_enter Try.func64, Try.ntmps64
      go_wp2_with (refine bk_alloc H.out rfl rfl ?_; intro g w1 h1; have H1 := Lib.hid h1; clear h1)
      have kc := blk_fits H1.out (i := i + 1) HI.out (O : Int) 32
      rw [hc] at kc
      with_reducible refine kc.mono ?_
      clear kc
      rintro e w' ⟨rfl, rfl⟩
      go_wp2_with fail
      have kc := ar_Base (p := p) (A := A) H1.out (i := i + 1) HI.out
      with_reducible refine kc.mono ?_
      clear kc
      rintro e w' ⟨rfl, rfl⟩
      go_wp2_with fail
      have kc := ar_WordAt H1.out (i := i + 1) HI.out ((A.base : Int) + O) O rfl (by have := HO.out; omega)
      rw [← HWE.out] at kc
      with_reducible refine kc.mono ?_
      clear kc
      rintro e w' ⟨rfl, rfl⟩
      go_wp2_with fail
      have kc := tag_Unpack w1 (W : Int) (Int.natCast_nonneg _) (by omega)
      rw [ht, hS] at kc
      with_reducible refine kc.mono ?_
      clear kc
      rintro e w' ⟨rfl, rfl⟩
      clear ht hc hS
      go_wp2_with fail
      have kc := blk_fits H1.out (i := i + 1) HI.out (O : Int) (S : Int)
      by_cases hf : O + S ≤ A.b.length
      · have hyes : couldB A.b (O : Int) (S : Int) = true := couldB_iff.2 (by have := HO.out; omega)
        rw [hyes] at kc
        clear hyes
        with_reducible refine kc.mono ?_
        clear kc
        rintro e w' ⟨rfl, rfl⟩
        go_wp2_with fail
        have kc := ar_Base (p := p) (A := A) H1.out (i := i + 1) HI.out
        with_reducible refine kc.mono ?_
        clear kc
        rintro e w' ⟨rfl, rfl⟩
        go_wp2_with fail
        have kc := ar_WordAt H1.out (i := i + 1) HI.out ((A.base : Int) + ((O : Int) + S - 8)) (O + S - 8) (by have := HO.out; omega) (by have := HT.out; omega)
        have hv := numAt_lt A.b (O + S - 8)
        obtain ⟨V, hV⟩ : ∃ V, V = numAt A.b (O + S - 8) := ⟨_, rfl⟩
        rw [← hV] at kc hv
        have HV := Lib.hid hV
        clear hV
        with_reducible refine kc.mono ?_
        clear kc
        rintro e w' ⟨rfl, rfl⟩
        by_cases hv2 : V = W
        · subst hv2
          go_wp2_with (refine bk_store H1.out 0 rfl rfl _ _ rfl rfl (O : Int) (S : Int) (tagU V) rfl ?_; intro w2 h2; have H2 := Lib.hid h2; clear h2)
          refine bodyPost_ret (results_row2 rfl _ _ g _ _ _ rfl (H2.out.row (i := 0) rfl) Try.underlying77 rfl size_bl) rfl ⟨by rw [HR.out, if_pos ⟨hf, HV.out.symm⟩]; rfl, H2.out.tail⟩
        · skip
          go_wp2_with (refine bk_store H1.out 0 rfl rfl _ _ rfl rfl 0 0 false rfl ?_; intro w2 h2; have H2 := Lib.hid h2; clear h2)
          refine bodyPost_ret (results_row2 rfl _ _ g _ _ _ rfl (H2.out.row (i := 0) rfl) Try.underlying77 rfl size_bl) rfl ⟨by rw [HR.out, if_neg (fun h => hv2 (HV.out.trans h.2))]; rfl, H2.out.tail⟩
      · have hno : couldB A.b (O : Int) (S : Int) = false := couldB_no (by intro h; omega)
        rw [hno] at kc
        clear hno
        with_reducible refine kc.mono ?_
        clear kc
        rintro e w' ⟨rfl, rfl⟩
        go_wp2_with (refine bk_store H1.out 0 rfl rfl _ _ rfl rfl 0 0 false rfl ?_; intro w2 h2; have H2 := Lib.hid h2; clear h2)
        refine bodyPost_ret (results_row2 rfl _ _ g _ _ _ rfl (H2.out.row (i := 0) rfl) Try.underlying77 rfl size_bl) rfl ⟨by rw [HR.out, if_neg (fun h => hf h.1)]; rfl, H2.out.tail⟩
  · have hc : couldB A.b o 32 = false := by cases hx : couldB A.b o 32 <;> simp_all
    rw [blkI_none hc]
    go_enter Try.func64, Try.ntmps64
    go_wp2_with (refine bk_alloc H.out rfl rfl ?_; intro g w1 h1; have H1 := Lib.hid h1; clear h1)
    have kc := blk_fits H1.out (i := i + 1) HI.out o 32
    rw [hc] at kc
    with_reducible refine kc.mono ?_
    clear kc hc
    rintro e w' ⟨rfl, rfl⟩
    go_wp2_with (refine bk_store H1.out 0 rfl rfl _ _ rfl rfl 0 0 false rfl ?_; intro w2 h2; have H2 := Lib.hid h2; clear h2)
    refine bodyPost_ret (results_row2 rfl _ _ g _ _ _ rfl (H2.out.row (i := 0) rfl) Try.underlying77 rfl size_bl) rfl ⟨rfl, H2.out.tail⟩
end
end Go.Proofs.Ytjijniillehfoaa

/- Blocks of an arena: the program's Ahead. -/
namespace Go.Own
theorem ahead_eq {b : List UInt8} {O S W : Nat} (h1 : 184 ≤ O) (h2 : O ≤ b.length) (hW : W = numAt b (O - 8)) (ht : isTag (W : Int) = true) (hS : tagS (W : Int) = S) :
    aheadI b (O : Int) = match blkI b ((O : Int) - S) with | some x => (if x.size = S ∧ x.used = tagU (W : Int) then some x else none) | none => none := by
  subst hW
  unfold aheadI
  rw [if_pos (Int.natCast_nonneg _), Int.toNat_natCast]
  have hn : (tagS ((numAt b (O - 8) : Nat) : Int)).toNat = S := by rw [hS, Int.toNat_natCast]
  have hg : blkI b ((O : Int) - S) = blkAt b (O - S) := by
    unfold blkI
    split
    · rw [show ((O : Int) - S).toNat = O - S by omega]
    · cases hx : blkAt b (O - S) with
      | none => rfl
      | some x => have := (blkAt_some hx).2.1; omega
  unfold aheadB
  rw [if_pos ⟨h1, h2, ht⟩, hn, hg]
  cases hx : blkAt b (O - S) with
  | none => rfl
  | some x =>
    have := (blkAt_some hx).2.1
    simp only
    by_cases hh : x.size = S ∧ x.used = tagU ((numAt b (O - 8) : Nat) : Int)
    · rw [if_pos ⟨by omega, hh⟩, if_pos hh]
    · rw [if_neg (fun h => hh h.2), if_neg hh]
theorem ahead_none {b : List UInt8} {O W : Nat} (hW : W = numAt b (O - 8)) (ht : isTag (W : Int) = false) : aheadI b (O : Int) = none := by
  subst hW
  unfold aheadI aheadB
  rw [if_pos (Int.natCast_nonneg _), Int.toNat_natCast, if_neg (fun h => by rw [ht] at h; exact Bool.false_ne_true h.2.2)]
theorem ahead_out {b : List UInt8} {o : Int} (h : ¬ (184 ≤ o ∧ o ≤ b.length)) : aheadI b o = none := by
  unfold aheadI
  split
  · unfold aheadB
    rw [if_neg (fun hh => h (by omega))]
  · rfl
end Go.Own
namespace Go.Proofs.Ytjijniillehfoaa
open Go Go.RowKit Go.Own
set_option linter.unusedVariables false
set_option maxRecDepth 100000
section
variable {B : Nat} {w0 w : World} {l : List Ob} {i p : Nat} {A : Ar}
set_option maxHeartbeats 4000000 in
theorem blk_Ahead (h : St B w0 w l) (hi : l[i]? = some (ArT p A)) (o : Int) :
    Calls Try.prog 65 #[arP p, .int .i64 o] w fun e w' => e = .returned (.tuple #[bkV (aheadI A.b o), errO (aheadI A.b o)]) ∧ St B w0 w' l := by
  obtain ⟨hsm, hbs⟩ := ar_small h hi
  have H := Lib.hid h; have HI := Lib.hid hi
  clear h hi
  by_cases c1 : 184 ≤ o
  · by_cases c2 : o ≤ A.b.length
    · obtain ⟨O, rfl⟩ := Int.eq_ofNat_of_zero_le (show 0 ≤ o by omega)
      have hO1 : 184 ≤ O := by omega
      have hO2 : O ≤ A.b.length := by omega
      have hw := numAt_lt A.b (O - 8)
      obtain ⟨W, hW⟩ : ∃ W, W = numAt A.b (O - 8) := ⟨_, rfl⟩
      rw [← hW] at hw
      have HWE := Lib.hid hW
      clear c1 c2 hW
      cases ht : isTag (W : Int) with
      | false =>
        rw [ahead_none HWE.out ht]
        go_enter Try.func65, Try.ntmps65
        go_wp2_with (refine bk_alloc H.out rfl rfl ?_; intro g w1 h1; have H1 := Lib.hid h1; clear h1)
        have kc := ar_Len (p := p) (A := A) H1.out (i := i + 1) HI.out
        with_reducible refine kc.mono ?_
        clear kc
        rintro e w' ⟨rfl, rfl⟩
        go_wp2_with fail
        have kc := ar_Base (p := p) (A := A) H1.out (i := i + 1) HI.out
        with_reducible refine kc.mono ?_
        clear kc
        rintro e w' ⟨rfl, rfl⟩
        go_wp2_with fail
        have kc := ar_WordAt H1.out (i := i + 1) HI.out ((A.base : Int) + ((O : Int) - 8)) (O - 8) (by omega) (by omega)
        rw [← HWE.out] at kc
        with_reducible refine kc.mono ?_
        clear kc
        rintro e w' ⟨rfl, rfl⟩
        go_wp2_with fail
        have kc := tag_Unpack w1 (W : Int) (Int.natCast_nonneg _) (by omega)
        rw [ht] at kc
        with_reducible refine kc.mono ?_
        clear kc
        rintro e w' ⟨rfl, rfl⟩
        clear ht
        go_wp2_with (refine bk_store H1.out 0 rfl rfl _ _ rfl rfl 0 0 false rfl ?_; intro w2 h2; have H2 := Lib.hid h2; clear h2)
        refine bodyPost_ret (results_row2 rfl _ _ g _ _ _ rfl (H2.out.row (i := 0) rfl) Try.underlying77 rfl size_bl) rfl ⟨rfl, H2.out.tail⟩
      | true =>
        obtain ⟨t1, t2, t3⟩ := tagS_isTag ht
        obtain ⟨S, hS⟩ := Int.eq_ofNat_of_zero_le (show 0 ≤ tagS W by omega)
        rw [hS] at t1 t2 t3
        have hS2 : S ≤ 16384 := by omega
        obtain ⟨U, hU⟩ : ∃ U, U = tagU (W : Int) := ⟨_, rfl⟩
        have HU := Lib.hid hU
        obtain ⟨R, hR⟩ : ∃ R, R = aheadI A.b (O : Int) := ⟨_, rfl⟩
        rw [← hR]
        have hR2 := hR.trans (ahead_eq hO1 hO2 HWE.out ht hS)
        obtain ⟨X, hX⟩ : ∃ X, X = blkI A.b ((O : Int) - S) := ⟨_, rfl⟩
        rw [← hX, ← hU] at hR2
        clear hU
        have HX := Lib.hid hX
        clear hR t1 t2 t3 hX
        cases X with
        | none =>
          simp only at hR2
          subst hR2
          go_enter Try.func65, Try.ntmps65
          go_wp2_with (refine bk_alloc H.out rfl rfl ?_; intro g w1 h1; have H1 := Lib.hid h1; clear h1)
          have kc := ar_Len (p := p) (A := A) H1.out (i := i + 1) HI.out
          with_reducible refine kc.mono ?_
          clear kc
          rintro e w' ⟨rfl, rfl⟩
          go_wp2_with fail
          have kc := ar_Base (p := p) (A := A) H1.out (i := i + 1) HI.out
          with_reducible refine kc.mono ?_
          clear kc
          rintro e w' ⟨rfl, rfl⟩
          go_wp2_with fail
          have kc := ar_WordAt H1.out (i := i + 1) HI.out ((A.base : Int) + ((O : Int) - 8)) (O - 8) (by omega) (by omega)
          rw [← HWE.out] at kc
          with_reducible refine kc.mono ?_
          clear kc
          rintro e w' ⟨rfl, rfl⟩
          go_wp2_with fail
          have kc := tag_Unpack w1 (W : Int) (Int.natCast_nonneg _) (by omega)
          rw [ht, hS] at kc
          with_reducible refine kc.mono ?_
          clear kc
          rintro e w' ⟨rfl, rfl⟩
          clear ht hS
          go_wp2_with fail
          have kc := blk_Get H1.out (i := i + 1) HI.out ((O : Int) - S)
          rw [← HX.out, show bkV none = .agg #[.int .i64 0, .int .i64 0, .bool false] from rfl, show errO none = .iface 183 (.int .i64 3) from rfl] at kc
          with_reducible refine kc.mono ?_
          clear kc
          rintro e w3 ⟨rfl, h3⟩
          have H3 := Lib.hid h3
          clear h3
          go_wp2_with (first | (refine bk_alloc H3.out rfl rfl ?_; intro g4 w4 h4; have H4 := Lib.hid h4; clear h4) | (refine bk_store H4.out 0 rfl rfl _ _ rfl rfl 0 0 false rfl ?_; intro w5 h5; have H5 := Lib.hid h5; clear h5 H4) | (refine bk_store H5.out 1 rfl rfl _ _ rfl rfl 0 0 false rfl ?_; intro w2 h2; have H2 := Lib.hid h2; clear h2))
          refine bodyPost_ret (results_row2 rfl _ _ g _ _ _ rfl (H2.out.row (i := 1) rfl) Try.underlying77 rfl size_bl) rfl ⟨rfl, H2.out.tail.tail⟩
        | some x =>
          have hx := HX.out
          have hxb : 0 ≤ (x.off : Int) ∧ x.size ≤ 16384 := by
            unfold blkI at hx
            split at hx
            · have := blkAt_some hx.symm; omega
            · cases hx
          obtain ⟨hxb1, hxb2⟩ := hxb
          clear hx
          have HR := Lib.hid hR2
          clear hR2
          go_enter Try.func65, Try.ntmps65
          go_wp2_with (refine bk_alloc H.out rfl rfl ?_; intro g w1 h1; have H1 := Lib.hid h1; clear h1)
          have kc := ar_Len (p := p) (A := A) H1.out (i := i + 1) HI.out
          with_reducible refine kc.mono ?_
          clear kc
          rintro e w' ⟨rfl, rfl⟩
          go_wp2_with fail
          have kc := ar_Base (p := p) (A := A) H1.out (i := i + 1) HI.out
          with_reducible refine kc.mono ?_
          clear kc
          rintro e w' ⟨rfl, rfl⟩
          go_wp2_with fail
          have kc := ar_WordAt H1.out (i := i + 1) HI.out ((A.base : Int) + ((O : Int) - 8)) (O - 8) (by omega) (by omega)
          rw [← HWE.out] at kc
          with_reducible refine kc.mono ?_
          clear kc
          rintro e w' ⟨rfl, rfl⟩
          go_wp2_with fail
          have kc := tag_Unpack w1 (W : Int) (Int.natCast_nonneg _) (by omega)
          rw [ht, hS, ← HU.out] at kc
          with_reducible refine kc.mono ?_
          clear kc
          rintro e w' ⟨rfl, rfl⟩
          clear ht hS
          go_wp2_with fail
          have kc := blk_Get H1.out (i := i + 1) HI.out ((O : Int) - S)
          rw [← HX.out, show bkV (some x) = .agg #[.int .i64 x.off, .int .i64 x.size, .bool x.used] from rfl, show errO (some x) = .nilIface from rfl] at kc
          with_reducible refine kc.mono ?_
          clear kc
          rintro e w3 ⟨rfl, h3⟩
          have H3 := Lib.hid h3
          clear h3
          by_cases q1 : x.size = S
          · subst q1
            by_cases q2 : x.used = U
            · subst q2
              go_wp2_with (first | (refine bk_alloc H3.out rfl rfl ?_; intro g4 w4 h4; have H4 := Lib.hid h4; clear h4) | (refine bk_store H4.out 0 rfl rfl _ _ rfl rfl (x.off : Int) (x.size : Int) x.used rfl ?_; intro w5 h5; have H5 := Lib.hid h5; clear h5 H4; have k1 : w5.cell? ⟨g4, 1, none⟩ = some (.int .i64 x.size) := (H5.out.row (i := 0) rfl).cell 1; have k2 : w5.cell? ⟨g4, 2, none⟩ = some (.bool x.used) := (H5.out.row (i := 0) rfl).cell 2) | (refine bk_load H5.out 0 rfl rfl _ rfl rfl ?_) | (refine bk_store H5.out 1 rfl rfl _ _ rfl rfl (x.off : Int) (x.size : Int) x.used rfl ?_; intro w2 h2; have H2 := Lib.hid h2; clear h2))
              refine bodyPost_ret (results_row2 rfl _ _ g _ _ _ rfl (H2.out.row (i := 1) rfl) Try.underlying77 rfl size_bl) rfl ⟨by rw [HR.out]; simp only; rw [if_pos ⟨trivial, trivial⟩]; rfl, H2.out.tail.tail⟩
            · have hq : U = !x.used := by revert q2; cases x.used <;> cases U <;> simp
              subst hq
              have HQ := Lib.hid q2
              clear q2
              go_wp2_with (first | (refine bk_alloc H3.out rfl rfl ?_; intro g4 w4 h4; have H4 := Lib.hid h4; clear h4) | (refine bk_store H4.out 0 rfl rfl _ _ rfl rfl (x.off : Int) (x.size : Int) x.used rfl ?_; intro w5 h5; have H5 := Lib.hid h5; clear h5 H4; have k1 : w5.cell? ⟨g4, 1, none⟩ = some (.int .i64 x.size) := (H5.out.row (i := 0) rfl).cell 1; have k2 : w5.cell? ⟨g4, 2, none⟩ = some (.bool x.used) := (H5.out.row (i := 0) rfl).cell 2) | (refine bk_store H5.out 1 rfl rfl _ _ rfl rfl 0 0 false rfl ?_; intro w2 h2; have H2 := Lib.hid h2; clear h2))
              refine bodyPost_ret (results_row2 rfl _ _ g _ _ _ rfl (H2.out.row (i := 1) rfl) Try.underlying77 rfl size_bl) rfl ⟨by rw [HR.out]; simp only; rw [if_neg (fun h => HQ.out h.2)]; rfl, H2.out.tail.tail⟩
          · have q1i : ¬ ((x.size : Int) = (S : Int)) := by omega
            have HQ := Lib.hid q1
            clear q1
            go_wp2_with (first | (refine bk_alloc H3.out rfl rfl ?_; intro g4 w4 h4; have H4 := Lib.hid h4; clear h4) | (refine bk_store H4.out 0 rfl rfl _ _ rfl rfl (x.off : Int) (x.size : Int) x.used rfl ?_; intro w5 h5; have H5 := Lib.hid h5; clear h5 H4; have k1 : w5.cell? ⟨g4, 1, none⟩ = some (.int .i64 x.size) := (H5.out.row (i := 0) rfl).cell 1; have k2 : w5.cell? ⟨g4, 2, none⟩ = some (.bool x.used) := (H5.out.row (i := 0) rfl).cell 2) | (refine bk_store H5.out 1 rfl rfl _ _ rfl rfl 0 0 false rfl ?_; intro w2 h2; have H2 := Lib.hid h2; clear h2))
            refine bodyPost_ret (results_row2 rfl _ _ g _ _ _ rfl (H2.out.row (i := 1) rfl) Try.underlying77 rfl size_bl) rfl ⟨by rw [HR.out]; simp only; rw [if_neg (fun h => HQ.out h.1)]; rfl, H2.out.tail.tail⟩
    · rw [ahead_out (fun h => c2 h.2)]
      have c3 : (A.b.length : Int) < o := by omega
      clear c2
      go_enter Try.func65, Try.ntmps65
      go_wp2_with (refine bk_alloc H.out rfl rfl ?_; intro g w1 h1; have H1 := Lib.hid h1; clear h1)
      have kc := ar_Len (p := p) (A := A) H1.out (i := i + 1) HI.out
      with_reducible refine kc.mono ?_
      clear kc
      rintro e w' ⟨rfl, rfl⟩
      go_wp2_with (refine bk_store H1.out 0 rfl rfl _ _ rfl rfl 0 0 false rfl ?_; intro w2 h2; have H2 := Lib.hid h2; clear h2)
      refine bodyPost_ret (results_row2 rfl _ _ g _ _ _ rfl (H2.out.row (i := 0) rfl) Try.underlying77 rfl size_bl) rfl ⟨rfl, H2.out.tail⟩
  · rw [ahead_out (fun h => c1 h.1)]
    have c3 : o < 184 := by omega
    clear c1
    go_enter Try.func65, Try.ntmps65
    go_wp2_with (first | (refine bk_alloc H.out rfl rfl ?_; intro g w1 h1; have H1 := Lib.hid h1; clear h1) | (refine bk_store H1.out 0 rfl rfl _ _ rfl rfl 0 0 false rfl ?_; intro w2 h2; have H2 := Lib.hid h2; clear h2))
    refine bodyPost_ret (results_row2 rfl _ _ g _ _ _ rfl (H2.out.row (i := 0) rfl) Try.underlying77 rfl size_bl) rfl ⟨rfl, H2.out.tail⟩
end
end Go.Proofs.Ytjijniillehfoaa

/- Blocks of an arena: the program's Walk. -/
namespace Go.Own
theorem walkFrom_step {b : List UInt8} {f O : Nat} (h : O < b.length) : walkFrom b (f + 1) O = match blkAt b O with | none => none | some x => (walkFrom b f (O + x.size)).map (x :: ·) := by
  rw [walkFrom, if_pos h]
  cases blkAt b O <;> rfl
theorem walkFrom_end {b : List UInt8} {f O : Nat} (h : ¬ O < b.length) : walkFrom b f O = some [] := by
  cases f <;> rw [walkFrom, if_neg h]
end Go.Own
namespace Go.Proofs.Ytjijniillehfoaa
open Go Go.RowKit Go.Own
set_option linter.unusedVariables false
set_option maxRecDepth 100000
def errW (x : Option (List Blk)) : Value := match x with | none => .iface 183 (.int .i64 3) | some _ => .nilIface
section
variable {B : Nat} {w0 w : World} {l : List Ob} {i p : Nat} {A : Ar}
set_option maxHeartbeats 4000000 in
theorem blk_Walk (h : St B w0 w l) (hi : l[i]? = some (ArT p A)) :
    Calls Try.prog 62 #[arP p] w fun e w' => ∃ v, e = .returned (.tuple #[v, errW (walkB A.b)]) ∧ St B w0 w' (BlsO v ((walkB A.b).getD []) :: l) := by
  obtain ⟨hsm, hbs⟩ := ar_small h hi
  have hs0 : St B w0 w (BlsO (.slice none 0 0) [] :: l) := h.addOwn (Below.refl _ _) (World.ownsRow_nil _ _ _ _)
  have H0 := Lib.hid hs0; have HI := Lib.hid hi
  by_cases c1 : A.b.length < 184
  · have hn : walkB A.b = none := by unfold walkB; rw [if_pos c1]
    rw [hn]
    have KL := Lib.hid (ar_Len h hi)
    clear hs0 h hi hn
    go_enter Try.func62, Try.ntmps62
    go_wp2_with fail
    with_reducible refine KL.out.mono ?_
    rintro e w' ⟨rfl, rfl⟩
    go_wp2
    go_ret2
    exact ⟨_, rfl, H0.out⟩
  · obtain ⟨R, hR⟩ : ∃ R, R = walkB A.b := ⟨_, rfl⟩
    rw [← hR]
    have hR2 : R = (walkFrom A.b A.b.length 184).map ([] ++ ·) := by
      rw [hR]; unfold walkB; rw [if_neg c1]
      cases walkFrom A.b A.b.length 184 <;> rfl
    have KL := Lib.hid (ar_Len h hi)
    have HR := Lib.hid hR2
    have hc : 184 ≤ A.b.length := by omega
    clear hs0 h hi hR hR2 c1
    go_enter Try.func62, Try.ntmps62
    go_wp2_with fail
    with_reducible refine KL.out.mono ?_
    rintro e w' ⟨rfl, rfl⟩
    go_wp2
    clear KL
    go_loopw [4, 5] (fun va vo wr => ∃ (f O : Nat) (L : List Blk), vo = .int .i64 O ∧ 184 ≤ O ∧ St B w0 wr (BlsO va L :: l) ∧ R = (walkFrom A.b f O).map (L ++ ·) ∧ A.b.length ≤ f + O ∧ L.length ≤ O ∧ O ≤ 40000) (fun _ vo _ => 100000 - (intOf vo).toNat)
    case atStart => exact ⟨_, 184, [], rfl, Nat.le_refl _, H0.out, HR.out, by omega, Nat.zero_le _, by omega⟩
    case round =>
      obtain ⟨f, O, L, rfl, hO, hs, hw, hf, hL, hO4⟩ := hrel
      have kc := ar_Len hs (i := i + 1) HI.out
      by_cases hlt : O < A.b.length
      · obtain ⟨f', rfl⟩ : ∃ f', f = f' + 1 := ⟨f - 1, by omega⟩
        rw [walkFrom_step hlt] at hw
        have HS := Lib.hid hs
        obtain ⟨X, hX⟩ : ∃ X, X = blkAt A.b O := ⟨_, rfl⟩
        rw [← hX] at hw
        have kg := blk_Get hs (i := i + 1) HI.out (O : Int)
        rw [show blkI A.b (O : Int) = X by unfold blkI; rw [if_pos (Int.natCast_nonneg _), Int.toNat_natCast, hX]] at kg
        clear hs
        cases X with
        | none =>
          simp only [Option.map_none] at hw
          subst hw
          rw [show bkV none = .agg #[.int .i64 0, .int .i64 0, .bool false] from rfl, show errO none = .iface 183 (.int .i64 3) from rfl] at kg
          clear hX
          go_wp2_with fail
          with_reducible refine kc.mono ?_
          clear kc
          rintro e w' ⟨rfl, rfl⟩
          go_wp2_with fail
          with_reducible refine kg.mono ?_
          clear kg
          rintro e w3 ⟨rfl, h3⟩
          have H3 := Lib.hid h3
          clear h3
          go_wp2_with (first | (refine bk_alloc H3.out rfl rfl ?_; intro g4 w4 h4; have H4 := Lib.hid h4; clear h4) | (refine bk_store H4.out 0 rfl rfl _ _ rfl rfl 0 0 false rfl ?_; intro w5 h5; have H5 := Lib.hid h5; clear h5 H4))
          go_ret2
          have h6 := H5.out.tail.tail
          exact ⟨_, rfl, h6.addOwn (Below.refl _ _) (World.ownsRow_nil _ _ _ _)⟩
        | some x =>
          obtain ⟨x1, x2, x3, x4, x5, x6, x7, x8⟩ := blkAt_some hX.symm
          rw [show bkV (some x) = .agg #[.int .i64 x.off, .int .i64 x.size, .bool x.used] from rfl, show errO (some x) = .nilIface from rfl] at kg
          have HW := Lib.hid hw; have HX1 := Lib.hid x1
          have hL2 : L.length ≤ 1000000 := by omega
          clear hX hw x1 x3 x6 x8
          go_wp2_with fail
          with_reducible refine kc.mono ?_
          clear kc
          rintro e w' ⟨rfl, rfl⟩
          go_wp2_with fail
          with_reducible refine kg.mono ?_
          clear kg
          rintro e w3 ⟨rfl, h3⟩
          have H3 := Lib.hid h3
          clear h3
          go_wp2_with (first | (refine bk_alloc H3.out rfl rfl ?_; intro g4 w4 h4; have H4 := Lib.hid h4; clear h4) | (refine bk_store H4.out 0 rfl rfl _ _ rfl rfl (x.off : Int) (x.size : Int) x.used rfl ?_; intro w5 h5; have H5 := Lib.hid h5; clear h5 H4) | (refine bk_load H5.out 0 rfl rfl _ rfl rfl ?_) | (at_builtin; go_must (refine bls_app H5.out 1 rfl rfl (.tmp 25) (.tmp 27) rfl rfl x.off x.size x.used x rfl rfl rfl rfl hL2 ?_; intro v6 w6 h6; have H6 := Lib.hid h6; clear h6; have k1 : w6.cell? ⟨g4, 1, none⟩ = some (.int .i64 x.size) := (H6.out.row (i := 0) rfl).cell 1)))
          refine ⟨⟨f', O + x.size, L ++ [x], by go_num, by omega, H6.out.tail, ?_, by omega, by rw [List.length_append, List.length_singleton]; omega, by omega⟩, by simp [intOf]; omega⟩
          rw [HW.out]
          simp only [Option.map_map]
          congr 1
          funext y
          simp
      · rw [walkFrom_end hlt] at hw
        have HS := Lib.hid hs; have HW := Lib.hid hw
        clear hs hw
        go_wp2_with fail
        with_reducible refine kc.mono ?_
        clear kc
        rintro e w' ⟨rfl, rfl⟩
        go_wp2
        go_ret2
        refine ⟨_, by rw [HW.out]; rfl, ?_⟩
        rw [HW.out]
        simp only [Option.map_some, List.append_nil, Option.getD_some]
        exact HS.out
end
end Go.Proofs.Ytjijniillehfoaa

/- Blocks of bytes: the reference's calls. -/
namespace Go.Proofs.Ytjijniillehfoaa
open Go Go.RowKit Go.Own
set_option linter.unusedVariables false
set_option maxRecDepth 100000
theorem getV_numAt (b : List UInt8) (o : Nat) : getV b (o : Int) 8 = (numAt b o : Nat) := by
  unfold getV numAt
  by_cases h : o + 8 ≤ b.length
  · rw [if_pos h, if_pos (by omega), Int.toNat_natCast]; rfl
  · rw [if_neg h, if_neg (by omega)]; rfl
theorem ref_Could (w : World) (a : Option Addr) (n c : Nat) (b : List UInt8) (hb : Bs w a n c b) (o s : Int) :
    Calls Try.prog 157 #[.slice a n c, .int .i64 o, .int .i64 s] w fun e w' => e = .returned (.bool (couldB b o s)) ∧ w = w' := by
  have hn := hb.len
  have hcap := Sl.cap hb; have hroom := Sl.room hb
  subst hn
  clear hb
  by_cases g1 : 184 ≤ o
  · have ht := rem16 o (by omega)
    have d1 : decide (184 ≤ o) = true := decide_eq_true g1
    by_cases g2 : o % 16 = 8
    · have d2 : (o % 16 == 8) = true := by rw [beq_iff_eq]; exact g2
      by_cases g3 : o ≤ b.length
      · have d3 : decide (o ≤ (b.length : Int)) = true := decide_eq_true g3
        have e4 : IntKind.i64.wrap ((b.length : Int) - o) = (b.length : Int) - o := IntWalk.i64_in _ (by omega)
        have hc : couldB b o s = decide (s ≤ (b.length : Int) - o) := by
          unfold couldB; rw [decide_eq_decide]; omega
        rw [hc]
        clear g1 g2 hc
        go_enter Try.func157, Try.ntmps157
        go_wp2
        go_ret
        exact ⟨rfl, rfl⟩
      · have d3 : decide (o ≤ (b.length : Int)) = false := decide_eq_false g3
        rw [couldB_no (by omega)]
        clear g1 g2
        go_enter Try.func157, Try.ntmps157
        go_wp2
        go_ret
        exact ⟨rfl, rfl⟩
    · have d2 : (o % 16 == 8) = false := by rw [beq_eq_false_iff_ne]; exact g2
      rw [couldB_no (by omega)]
      clear g1
      go_enter Try.func157, Try.ntmps157
      go_wp2
      go_ret
      exact ⟨rfl, rfl⟩
  · have d1 : decide (184 ≤ o) = false := decide_eq_false g1
    rw [couldB_no (by omega)]
    go_enter Try.func157, Try.ntmps157
    go_wp2
    go_ret
    exact ⟨rfl, rfl⟩
/-- The word at a place that isn't behind the end. -/
theorem ref_Word (w : World) (a : Option Addr) (n c : Nat) (b : List UInt8) (hb : Bs w a n c b) (O : Nat) (o : Int) (ho : o = O) (hO : O ≤ b.length) :
    Calls Try.prog 158 #[.slice a n c, .int .i64 o] w fun e w' => ∃ k, e = .returned (.tuple #[.int .u64 (numAt b O : Nat), .bool k]) ∧ w = w' := by
  subst ho
  have hn := hb.len
  have hcap := Sl.cap hb; have hroom := Sl.room hb
  subst hn
  have kg := ref_Get w a _ c b (O : Int) 8 hb (by omega) (by omega) (by decide) (by decide)
  rw [getV_numAt] at kg
  generalize getOk b (O : Int) 8 = k at *
  clear hb
  go_enter Try.func158, Try.ntmps158
  go_wp2_with fail
  with_reducible refine kg.mono ?_
  clear kg
  rintro e w' ⟨rfl, rfl⟩
  go_wp2
  go_ret2
  exact ⟨_, rfl, rfl⟩
section
variable {B : Nat} {w0 w : World} {l : List Ob}
set_option maxHeartbeats 4000000 in
theorem rb_Get (h : St B w0 w l) (a : Option Addr) (n c : Nat) (b : List UInt8) (hb : ∀ w', St B w0 w' l → Bs w' a n c b) (o : Int) :
    Calls Try.prog 66 #[.slice a n c, .int .i64 o] w fun e w' => e = .returned (.tuple #[bkV (blkI b o), .bool (blkI b o).isSome]) ∧ St B w0 w' l := by
  have hb0 := hb w h
  have hn := hb0.len
  have hcap := Sl.cap hb0; have hroom := Sl.room hb0
  subst hn
  have H := Lib.hid h; have HB := Lib.hid hb
  clear h hb hb0
  by_cases hc : couldB b o 8 = true
  · obtain ⟨c1, c2, c3, c4⟩ := couldB_iff.1 hc
    obtain ⟨O, rfl⟩ := Int.eq_ofNat_of_zero_le (show 0 ≤ o by omega)
    have hgi : blkI b (O : Int) = blkAt b O := by unfold blkI; rw [if_pos (Int.natCast_nonneg _), Int.toNat_natCast]
    rw [hgi]
    have hw := numAt_lt b O
    obtain ⟨W, hW⟩ : ∃ W, W = numAt b O := ⟨_, rfl⟩
    rw [← hW] at hw
    have hO : O ≤ b.length := by omega
    have hO2 : 184 ≤ O := by omega
    have HO := Lib.hid (And.intro c1 (And.intro c2 (And.intro c3 c4)))
    have HWE := Lib.hid hW
    clear c1 c2 c3 c4 hgi hW
    cases ht : isTag (W : Int) with
    | false =>
      have hn : blkAt b O = none := by
        unfold blkAt; rw [if_neg]; intro hh; rw [← HWE.out, ht] at hh; exact absurd hh.2.2.1 Bool.false_ne_true
      rw [hn]
      clear hn
      go_enter Try.func66, Try.ntmps66
      go_wp2_with (refine bk_alloc H.out rfl rfl ?_; intro g w1 h1; have H1 := Lib.hid h1; clear h1)
      have kc := ref_Could _ _ _ _ _ (HB.out _ H1.out.tail) (O : Int) 8
      rw [hc] at kc
      with_reducible refine kc.mono ?_
      clear kc
      rintro e w' ⟨rfl, rfl⟩
      go_wp2_with fail
      have kc := ref_Word _ _ _ _ _ (HB.out _ H1.out.tail) O (O : Int) rfl hO
      rw [← HWE.out] at kc
      with_reducible refine kc.mono ?_
      clear kc
      rintro e w' ⟨k1, rfl, rfl⟩
      go_wp2_with fail
      have kc := ref_Unpack w1 (W : Int) (Int.natCast_nonneg _) (by omega)
      rw [ht] at kc
      with_reducible refine kc.mono ?_
      clear kc
      rintro e w' ⟨rfl, rfl⟩
      clear ht hc
      go_wp2_with (refine bk_store H1.out 0 rfl rfl _ _ rfl rfl 0 0 false rfl ?_; intro w2 h2; have H2 := Lib.hid h2; clear h2)
      refine bodyPost_ret (results_row2 rfl _ _ g _ _ _ rfl (H2.out.row (i := 0) rfl) Try.underlying77 rfl size_bl) rfl ⟨rfl, H2.out.tail⟩
    | true =>
      obtain ⟨t1, t2, t3⟩ := tagS_isTag ht
      obtain ⟨S, hS⟩ := Int.eq_ofNat_of_zero_le (show 0 ≤ tagS W by omega)
      rw [hS] at t1 t2 t3
      have hS2 : S ≤ 16384 := by omega
      have hS1 : 32 ≤ S := by omega
      have hSn : (tagS ((numAt b O : Nat) : Int)).toNat = S := by rw [← HWE.out, hS, Int.toNat_natCast]
      have hb : blkAt b O = if O + S ≤ b.length ∧ numAt b (O + S - 8) = W then some ⟨O, S, tagU W⟩ else none := by
        have := HO.out
        unfold blkAt
        rw [hSn, ← HWE.out, ht]
        by_cases hh : O + S ≤ b.length ∧ numAt b (O + S - 8) = W
        · rw [if_pos ⟨by omega, by omega, rfl, hh⟩, if_pos hh]
        · rw [if_neg (fun h => hh h.2.2.2), if_neg hh]
      obtain ⟨R, hR⟩ : ∃ R, R = blkAt b O := ⟨_, rfl⟩
      rw [← hR]
      have HR := Lib.hid (hR.trans hb)
      clear hb t1 t2 t3 hSn hR
      go_enter Try.func66, Try.ntmps66
      go_wp2_with (refine bk_alloc H.out rfl rfl ?_; intro g w1 h1; have H1 := Lib.hid h1; clear h1)
      have kc := ref_Could _ _ _ _ _ (HB.out _ H1.out.tail) (O : Int) 8
      rw [hc] at kc
      with_reducible refine kc.mono ?_
      clear kc
      rintro e w' ⟨rfl, rfl⟩
      go_wp2_with fail
      have kc := ref_Word _ _ _ _ _ (HB.out _ H1.out.tail) O (O : Int) rfl hO
      rw [← HWE.out] at kc
      with_reducible refine kc.mono ?_
      clear kc
      rintro e w' ⟨k1, rfl, rfl⟩
      go_wp2_with fail
      have kc := ref_Unpack w1 (W : Int) (Int.natCast_nonneg _) (by omega)
      rw [ht, hS] at kc
      with_reducible refine kc.mono ?_
      clear kc
      rintro e w' ⟨rfl, rfl⟩
      clear ht hc hS
      go_wp2_with fail
      have kc := ref_Could _ _ _ _ _ (HB.out _ H1.out.tail) (O : Int) (S : Int)
      by_cases hf : O + S ≤ b.length
      · have hyes : couldB b (O : Int) (S : Int) = true := couldB_iff.2 (by have := HO.out; omega)
        rw [hyes] at kc
        clear hyes
        with_reducible refine kc.mono ?_
        clear kc
        rintro e w' ⟨rfl, rfl⟩
        go_wp2_with fail
        have kc := ref_Word _ _ _ _ _ (HB.out _ H1.out.tail) (O + S - 8) ((O : Int) + S - 8) (by omega) (by omega)
        obtain ⟨V, hV⟩ : ∃ V, V = numAt b (O + S - 8) := ⟨_, rfl⟩
        rw [← hV] at kc
        have HV := Lib.hid hV
        clear hV
        with_reducible refine kc.mono ?_
        clear kc
        rintro e w' ⟨k2, rfl, rfl⟩
        by_cases hv2 : V = W
        · subst hv2
          go_wp2_with (refine bk_store H1.out 0 rfl rfl _ _ rfl rfl (O : Int) (S : Int) (tagU V) rfl ?_; intro w2 h2; have H2 := Lib.hid h2; clear h2)
          refine bodyPost_ret (results_row2 rfl _ _ g _ _ _ rfl (H2.out.row (i := 0) rfl) Try.underlying77 rfl size_bl) rfl ⟨by rw [HR.out, if_pos ⟨hf, HV.out.symm⟩]; rfl, H2.out.tail⟩
        · skip
          go_wp2_with (refine bk_store H1.out 0 rfl rfl _ _ rfl rfl 0 0 false rfl ?_; intro w2 h2; have H2 := Lib.hid h2; clear h2)
          refine bodyPost_ret (results_row2 rfl _ _ g _ _ _ rfl (H2.out.row (i := 0) rfl) Try.underlying77 rfl size_bl) rfl ⟨by rw [HR.out, if_neg (fun h => hv2 (HV.out.trans h.2))]; rfl, H2.out.tail⟩
      · have hno : couldB b (O : Int) (S : Int) = false := couldB_no (by intro h; omega)
        rw [hno] at kc
        clear hno
        with_reducible refine kc.mono ?_
        clear kc
        rintro e w' ⟨rfl, rfl⟩
        go_wp2_with (refine bk_store H1.out 0 rfl rfl _ _ rfl rfl 0 0 false rfl ?_; intro w2 h2; have H2 := Lib.hid h2; clear h2)
        refine bodyPost_ret (results_row2 rfl _ _ g _ _ _ rfl (H2.out.row (i := 0) rfl) Try.underlying77 rfl size_bl) rfl ⟨by rw [HR.out, if_neg (fun h => hf h.1)]; rfl, H2.out.tail⟩
  · have hc : couldB b o 8 = false := by cases hx : couldB b o 8 <;> simp_all
    have hn : blkI b o = none := by
      refine blkI_none ?_
      cases hx : couldB b o 32
      · rfl
      · have := couldB_iff.1 hx
        rw [couldB_iff.2 (by omega)] at hc; cases hc
    rw [hn]
    clear hn
    go_enter Try.func66, Try.ntmps66
    go_wp2_with (refine bk_alloc H.out rfl rfl ?_; intro g w1 h1; have H1 := Lib.hid h1; clear h1)
    have kc := ref_Could _ _ _ _ _ (HB.out _ H1.out.tail) o 8
    rw [hc] at kc
    with_reducible refine kc.mono ?_
    clear kc hc
    rintro e w' ⟨rfl, rfl⟩
    go_wp2_with (refine bk_store H1.out 0 rfl rfl _ _ rfl rfl 0 0 false rfl ?_; intro w2 h2; have H2 := Lib.hid h2; clear h2)
    refine bodyPost_ret (results_row2 rfl _ _ g _ _ _ rfl (H2.out.row (i := 0) rfl) Try.underlying77 rfl size_bl) rfl ⟨rfl, H2.out.tail⟩
end
end Go.Proofs.Ytjijniillehfoaa

/- Blocks of bytes: the reference's Ahead and Walk. -/
namespace Go.Proofs.Ytjijniillehfoaa
open Go Go.RowKit Go.Own
set_option linter.unusedVariables false
set_option maxRecDepth 100000
section
variable {B : Nat} {w0 w : World} {l : List Ob}
set_option maxHeartbeats 4000000 in
theorem rb_Ahead (h : St B w0 w l) (a : Option Addr) (n c : Nat) (b : List UInt8) (hb : ∀ w', St B w0 w' l → Bs w' a n c b) (hsm : b.length ≤ 4611686018427387904) (o : Int) :
    Calls Try.prog 67 #[.slice a n c, .int .i64 o] w fun e w' => e = .returned (.tuple #[bkV (aheadI b o), .bool (aheadI b o).isSome]) ∧ St B w0 w' l := by
  have hb0 := hb w h
  have hn := hb0.len
  have hcap := Sl.cap hb0; have hroom := Sl.room hb0
  subst hn
  have H := Lib.hid h; have HB := Lib.hid hb
  clear h hb hb0
  by_cases c1 : 184 ≤ o
  · by_cases c2 : o ≤ b.length
    · obtain ⟨O, rfl⟩ := Int.eq_ofNat_of_zero_le (show 0 ≤ o by omega)
      have hO1 : 184 ≤ O := by omega
      have hO2 : O ≤ b.length := by omega
      have hw := numAt_lt b (O - 8)
      obtain ⟨W, hW⟩ : ∃ W, W = numAt b (O - 8) := ⟨_, rfl⟩
      rw [← hW] at hw
      have HWE := Lib.hid hW
      clear c1 c2 hW
      cases ht : isTag (W : Int) with
      | false =>
        rw [ahead_none HWE.out ht]
        go_enter Try.func67, Try.ntmps67
        go_wp2_with (refine bk_alloc H.out rfl rfl ?_; intro g w1 h1; have H1 := Lib.hid h1; clear h1)
        have kc := ref_Word _ _ _ _ _ (HB.out _ H1.out.tail) (O - 8) ((O : Int) - 8) (by omega) (by omega)
        rw [← HWE.out] at kc
        with_reducible refine kc.mono ?_
        clear kc
        rintro e w' ⟨k0, rfl, rfl⟩
        go_wp2_with fail
        have kc := ref_Unpack w1 (W : Int) (Int.natCast_nonneg _) (by omega)
        rw [ht] at kc
        with_reducible refine kc.mono ?_
        clear kc
        rintro e w' ⟨rfl, rfl⟩
        clear ht
        go_wp2_with (refine bk_store H1.out 0 rfl rfl _ _ rfl rfl 0 0 false rfl ?_; intro w2 h2; have H2 := Lib.hid h2; clear h2)
        refine bodyPost_ret (results_row2 rfl _ _ g _ _ _ rfl (H2.out.row (i := 0) rfl) Try.underlying77 rfl size_bl) rfl ⟨rfl, H2.out.tail⟩
      | true =>
        obtain ⟨t1, t2, t3⟩ := tagS_isTag ht
        obtain ⟨S, hS⟩ := Int.eq_ofNat_of_zero_le (show 0 ≤ tagS W by omega)
        rw [hS] at t1 t2 t3
        have hS2 : S ≤ 16384 := by omega
        obtain ⟨U, hU⟩ : ∃ U, U = tagU (W : Int) := ⟨_, rfl⟩
        have HU := Lib.hid hU
        obtain ⟨R, hR⟩ : ∃ R, R = aheadI b (O : Int) := ⟨_, rfl⟩
        rw [← hR]
        have hR2 := hR.trans (ahead_eq hO1 hO2 HWE.out ht hS)
        obtain ⟨X, hX⟩ : ∃ X, X = blkI b ((O : Int) - S) := ⟨_, rfl⟩
        rw [← hX, ← hU] at hR2
        clear hU
        have HX := Lib.hid hX
        clear hR t1 t2 t3 hX
        cases X with
        | none =>
          simp only at hR2
          subst hR2
          go_enter Try.func67, Try.ntmps67
          go_wp2_with (refine bk_alloc H.out rfl rfl ?_; intro g w1 h1; have H1 := Lib.hid h1; clear h1)
          have kc := ref_Word _ _ _ _ _ (HB.out _ H1.out.tail) (O - 8) ((O : Int) - 8) (by omega) (by omega)
          rw [← HWE.out] at kc
          with_reducible refine kc.mono ?_
          clear kc
          rintro e w' ⟨k0, rfl, rfl⟩
          go_wp2_with fail
          have kc := ref_Unpack w1 (W : Int) (Int.natCast_nonneg _) (by omega)
          rw [ht, hS] at kc
          with_reducible refine kc.mono ?_
          clear kc
          rintro e w' ⟨rfl, rfl⟩
          clear ht hS
          go_wp2_with fail
          have kc := rb_Get H1.out a _ c b (fun w' h => HB.out _ h.tail) ((O : Int) - S)
          rw [← HX.out, show bkV none = .agg #[.int .i64 0, .int .i64 0, .bool false] from rfl, show (none : Option Blk).isSome = false from rfl] at kc
          with_reducible refine kc.mono ?_
          clear kc
          rintro e w3 ⟨rfl, h3⟩
          have H3 := Lib.hid h3
          clear h3
          go_wp2_with (first | (refine bk_alloc H3.out rfl rfl ?_; intro g4 w4 h4; have H4 := Lib.hid h4; clear h4) | (refine bk_store H4.out 0 rfl rfl _ _ rfl rfl 0 0 false rfl ?_; intro w5 h5; have H5 := Lib.hid h5; clear h5 H4) | (refine bk_store H5.out 1 rfl rfl _ _ rfl rfl 0 0 false rfl ?_; intro w2 h2; have H2 := Lib.hid h2; clear h2))
          refine bodyPost_ret (results_row2 rfl _ _ g _ _ _ rfl (H2.out.row (i := 1) rfl) Try.underlying77 rfl size_bl) rfl ⟨rfl, H2.out.tail.tail⟩
        | some x =>
          have hx := HX.out
          have hxb : 0 ≤ (x.off : Int) ∧ x.size ≤ 16384 := by
            unfold blkI at hx
            split at hx
            · have := blkAt_some hx.symm; omega
            · cases hx
          obtain ⟨hxb1, hxb2⟩ := hxb
          clear hx
          have HR := Lib.hid hR2
          clear hR2
          go_enter Try.func67, Try.ntmps67
          go_wp2_with (refine bk_alloc H.out rfl rfl ?_; intro g w1 h1; have H1 := Lib.hid h1; clear h1)
          have kc := ref_Word _ _ _ _ _ (HB.out _ H1.out.tail) (O - 8) ((O : Int) - 8) (by omega) (by omega)
          rw [← HWE.out] at kc
          with_reducible refine kc.mono ?_
          clear kc
          rintro e w' ⟨k0, rfl, rfl⟩
          go_wp2_with fail
          have kc := ref_Unpack w1 (W : Int) (Int.natCast_nonneg _) (by omega)
          rw [ht, hS, ← HU.out] at kc
          with_reducible refine kc.mono ?_
          clear kc
          rintro e w' ⟨rfl, rfl⟩
          clear ht hS
          go_wp2_with fail
          have kc := rb_Get H1.out a _ c b (fun w' h => HB.out _ h.tail) ((O : Int) - S)
          rw [← HX.out, show bkV (some x) = .agg #[.int .i64 x.off, .int .i64 x.size, .bool x.used] from rfl, show (some x).isSome = true from rfl] at kc
          with_reducible refine kc.mono ?_
          clear kc
          rintro e w3 ⟨rfl, h3⟩
          have H3 := Lib.hid h3
          clear h3
          by_cases q1 : x.size = S
          · subst q1
            by_cases q2 : x.used = U
            · subst q2
              go_wp2_with (first | (refine bk_alloc H3.out rfl rfl ?_; intro g4 w4 h4; have H4 := Lib.hid h4; clear h4) | (refine bk_store H4.out 0 rfl rfl _ _ rfl rfl (x.off : Int) (x.size : Int) x.used rfl ?_; intro w5 h5; have H5 := Lib.hid h5; clear h5 H4; have k1 : w5.cell? ⟨g4, 1, none⟩ = some (.int .i64 x.size) := (H5.out.row (i := 0) rfl).cell 1; have k2 : w5.cell? ⟨g4, 2, none⟩ = some (.bool x.used) := (H5.out.row (i := 0) rfl).cell 2) | (refine bk_load H5.out 0 rfl rfl _ rfl rfl ?_) | (refine bk_store H5.out 1 rfl rfl _ _ rfl rfl (x.off : Int) (x.size : Int) x.used rfl ?_; intro w2 h2; have H2 := Lib.hid h2; clear h2))
              refine bodyPost_ret (results_row2 rfl _ _ g _ _ _ rfl (H2.out.row (i := 1) rfl) Try.underlying77 rfl size_bl) rfl ⟨by rw [HR.out]; simp only; rw [if_pos ⟨trivial, trivial⟩]; rfl, H2.out.tail.tail⟩
            · have hq : U = !x.used := by revert q2; cases x.used <;> cases U <;> simp
              subst hq
              have HQ := Lib.hid q2
              clear q2
              go_wp2_with (first | (refine bk_alloc H3.out rfl rfl ?_; intro g4 w4 h4; have H4 := Lib.hid h4; clear h4) | (refine bk_store H4.out 0 rfl rfl _ _ rfl rfl (x.off : Int) (x.size : Int) x.used rfl ?_; intro w5 h5; have H5 := Lib.hid h5; clear h5 H4; have k1 : w5.cell? ⟨g4, 1, none⟩ = some (.int .i64 x.size) := (H5.out.row (i := 0) rfl).cell 1; have k2 : w5.cell? ⟨g4, 2, none⟩ = some (.bool x.used) := (H5.out.row (i := 0) rfl).cell 2) | (refine bk_store H5.out 1 rfl rfl _ _ rfl rfl 0 0 false rfl ?_; intro w2 h2; have H2 := Lib.hid h2; clear h2))
              refine bodyPost_ret (results_row2 rfl _ _ g _ _ _ rfl (H2.out.row (i := 1) rfl) Try.underlying77 rfl size_bl) rfl ⟨by rw [HR.out]; simp only; rw [if_neg (fun h => HQ.out h.2)]; rfl, H2.out.tail.tail⟩
          · have q1i : ¬ ((x.size : Int) = (S : Int)) := by omega
            have HQ := Lib.hid q1
            clear q1
            go_wp2_with (first | (refine bk_alloc H3.out rfl rfl ?_; intro g4 w4 h4; have H4 := Lib.hid h4; clear h4) | (refine bk_store H4.out 0 rfl rfl _ _ rfl rfl (x.off : Int) (x.size : Int) x.used rfl ?_; intro w5 h5; have H5 := Lib.hid h5; clear h5 H4; have k1 : w5.cell? ⟨g4, 1, none⟩ = some (.int .i64 x.size) := (H5.out.row (i := 0) rfl).cell 1; have k2 : w5.cell? ⟨g4, 2, none⟩ = some (.bool x.used) := (H5.out.row (i := 0) rfl).cell 2) | (refine bk_store H5.out 1 rfl rfl _ _ rfl rfl 0 0 false rfl ?_; intro w2 h2; have H2 := Lib.hid h2; clear h2))
            refine bodyPost_ret (results_row2 rfl _ _ g _ _ _ rfl (H2.out.row (i := 1) rfl) Try.underlying77 rfl size_bl) rfl ⟨by rw [HR.out]; simp only; rw [if_neg (fun h => HQ.out h.1)]; rfl, H2.out.tail.tail⟩
    · rw [ahead_out (fun h => c2 h.2)]
      have c3 : (b.length : Int) < o := by omega
      clear c2
      go_enter Try.func67, Try.ntmps67
      go_wp2_with (first | (refine bk_alloc H.out rfl rfl ?_; intro g w1 h1; have H1 := Lib.hid h1; clear h1) | (refine bk_store H1.out 0 rfl rfl _ _ rfl rfl 0 0 false rfl ?_; intro w2 h2; have H2 := Lib.hid h2; clear h2))
      refine bodyPost_ret (results_row2 rfl _ _ g _ _ _ rfl (H2.out.row (i := 0) rfl) Try.underlying77 rfl size_bl) rfl ⟨rfl, H2.out.tail⟩
  · rw [ahead_out (fun h => c1 h.1)]
    have c3 : o < 184 := by omega
    clear c1
    go_enter Try.func67, Try.ntmps67
    go_wp2_with (first | (refine bk_alloc H.out rfl rfl ?_; intro g w1 h1; have H1 := Lib.hid h1; clear h1) | (refine bk_store H1.out 0 rfl rfl _ _ rfl rfl 0 0 false rfl ?_; intro w2 h2; have H2 := Lib.hid h2; clear h2))
    refine bodyPost_ret (results_row2 rfl _ _ g _ _ _ rfl (H2.out.row (i := 0) rfl) Try.underlying77 rfl size_bl) rfl ⟨rfl, H2.out.tail⟩
set_option maxHeartbeats 4000000 in
theorem rb_Walk (h : St B w0 w l) (a : Option Addr) (n c : Nat) (b : List UInt8) (hb : ∀ w', St B w0 w' l → Bs w' a n c b) (hsm : b.length ≤ 16384) :
    Calls Try.prog 68 #[.slice a n c] w fun e w' => ∃ v, e = .returned (.tuple #[v, .bool (walkB b).isSome]) ∧ St B w0 w' (BlsO v ((walkB b).getD []) :: l) := by
  have hb0 := hb w h
  have hn := hb0.len
  have hcap := Sl.cap hb0; have hroom := Sl.room hb0
  subst hn
  have hs0 : St B w0 w (BlsO (.slice none 0 0) [] :: l) := h.addOwn (Below.refl _ _) (World.ownsRow_nil _ _ _ _)
  have H0 := Lib.hid hs0; have HB := Lib.hid hb
  by_cases c1 : b.length < 184
  · have hn : walkB b = none := by unfold walkB; rw [if_pos c1]
    rw [hn]
    clear hs0 h hb hb0 hn
    go_enter Try.func68, Try.ntmps68
    go_wp2
    go_ret2
    exact ⟨_, rfl, H0.out⟩
  · obtain ⟨R, hR⟩ : ∃ R, R = walkB b := ⟨_, rfl⟩
    rw [← hR]
    have hR2 : R = (walkFrom b b.length 184).map ([] ++ ·) := by
      rw [hR]; unfold walkB; rw [if_neg c1]
      cases walkFrom b b.length 184 <;> rfl
    have HR := Lib.hid hR2
    have hc : 184 ≤ b.length := by omega
    clear hs0 h hb hb0 hR hR2 c1
    go_enter Try.func68, Try.ntmps68
    go_wp2
    go_loopw [4, 5] (fun va vo wr => ∃ (f O : Nat) (L : List Blk), vo = .int .i64 O ∧ 184 ≤ O ∧ St B w0 wr (BlsO va L :: l) ∧ R = (walkFrom b f O).map (L ++ ·) ∧ b.length ≤ f + O ∧ L.length ≤ O ∧ O ≤ 40000) (fun _ vo _ => 100000 - (intOf vo).toNat)
    case atStart => exact ⟨_, 184, [], rfl, Nat.le_refl _, H0.out, HR.out, by omega, Nat.zero_le _, by omega⟩
    case round =>
      obtain ⟨f, O, L, rfl, hO, hs, hw, hf, hL, hO4⟩ := hrel
      by_cases hlt : O < b.length
      · obtain ⟨f', rfl⟩ : ∃ f', f = f' + 1 := ⟨f - 1, by omega⟩
        rw [walkFrom_step hlt] at hw
        obtain ⟨X, hX⟩ : ∃ X, X = blkAt b O := ⟨_, rfl⟩
        rw [← hX] at hw
        have kg := rb_Get hs a _ c b (fun w' h => HB.out _ h.tail) (O : Int)
        rw [show blkI b (O : Int) = X by unfold blkI; rw [if_pos (Int.natCast_nonneg _), Int.toNat_natCast, hX]] at kg
        clear hs
        cases X with
        | none =>
          simp only [Option.map_none] at hw
          subst hw
          rw [show bkV none = .agg #[.int .i64 0, .int .i64 0, .bool false] from rfl, show (none : Option Blk).isSome = false from rfl] at kg
          clear hX
          go_wp2_with fail
          with_reducible refine kg.mono ?_
          clear kg
          rintro e w3 ⟨rfl, h3⟩
          have H3 := Lib.hid h3
          clear h3
          go_wp2_with (first | (refine bk_alloc H3.out rfl rfl ?_; intro g4 w4 h4; have H4 := Lib.hid h4; clear h4) | (refine bk_store H4.out 0 rfl rfl _ _ rfl rfl 0 0 false rfl ?_; intro w5 h5; have H5 := Lib.hid h5; clear h5 H4))
          go_ret2
          have h6 := H5.out.tail.tail
          exact ⟨_, rfl, h6.addOwn (Below.refl _ _) (World.ownsRow_nil _ _ _ _)⟩
        | some x =>
          obtain ⟨x1, x2, x3, x4, x5, x6, x7, x8⟩ := blkAt_some hX.symm
          rw [show bkV (some x) = .agg #[.int .i64 x.off, .int .i64 x.size, .bool x.used] from rfl, show (some x).isSome = true from rfl] at kg
          have HW := Lib.hid hw; have HX1 := Lib.hid x1
          have hL2 : L.length ≤ 1000000 := by omega
          clear hX hw x1 x3 x6 x8
          go_wp2_with fail
          with_reducible refine kg.mono ?_
          clear kg
          rintro e w3 ⟨rfl, h3⟩
          have H3 := Lib.hid h3
          clear h3
          go_wp2_with (first | (refine bk_alloc H3.out rfl rfl ?_; intro g4 w4 h4; have H4 := Lib.hid h4; clear h4) | (refine bk_store H4.out 0 rfl rfl _ _ rfl rfl (x.off : Int) (x.size : Int) x.used rfl ?_; intro w5 h5; have H5 := Lib.hid h5; clear h5 H4) | (refine bk_load H5.out 0 rfl rfl _ rfl rfl ?_) | (at_builtin; go_must (refine bls_app H5.out 1 rfl rfl (.tmp 23) (.tmp 25) rfl rfl x.off x.size x.used x rfl rfl rfl rfl hL2 ?_; intro v6 w6 h6; have H6 := Lib.hid h6; clear h6; have k1 : w6.cell? ⟨g4, 1, none⟩ = some (.int .i64 x.size) := (H6.out.row (i := 0) rfl).cell 1)))
          refine ⟨⟨f', O + x.size, L ++ [x], by go_num, by omega, H6.out.tail, ?_, by omega, by rw [List.length_append, List.length_singleton]; omega, by omega⟩, by simp [intOf]; omega⟩
          rw [HW.out]
          simp only [Option.map_map]
          congr 1
          funext y
          simp
      · rw [walkFrom_end hlt] at hw
        have HS := Lib.hid hs; have HW := Lib.hid hw
        clear hs hw
        go_wp2
        go_ret2
        refine ⟨_, by rw [HW.out]; rfl, ?_⟩
        rw [HW.out]
        simp only [Option.map_some, List.append_nil, Option.getD_some]
        exact HS.out
end
end Go.Proofs.Ytjijniillehfoaa

/- A region that draws its order: what its reads are to yield hangs on one condition on the world, which every heavy operation is to bring about anew. -/
namespace Go.Own
open Go Go.RowKit
def FlowS (P : Program) (ops : List Oper) (Q : Exit → Act → World → Prop) (S : World → Prop) (fuel : Nat) (listed : Array Bool) (a : Act) (W : World) : Prop :=
  PanicsSame Q ∧ (S W → wpAnyH P .any ops.toArray Q S fuel listed a W)
section
variable {P : Program} {ops : List Oper} {Q : Exit → Act → World → Prop} {S : World → Prop} {fuel : Nat} {listed : Array Bool} {a a' : Act} {W : World}
theorem flows_begin {id : Nat} {l : List Oper} (hm : P.follows .mixedOrders = true) (n : Nat) (hn : l.length = n) (hq : PanicsSame Q) (hS : S W.drew) (h : PanicsSame Q → FlowS P l Q S n (List.replicate n false).toArray a W.drew) : (Code.region id l.toArray true).wp P Q a W := by
  subst hn
  refine wp_region_held (S := S) hm ?_
  have := (h hq).2 hS
  simpa using this
theorem flows_take (i : Nat) {oi : Oper} {v : Value} (hp : PanicsSame Q) (hi : (ops.drop i).head? = some oi) (hc : (Region.noSelect ops.toArray && Region.free .any ops.toArray listed i && (Region.ready .any ops.toArray listed).contains i) = true)
    (hw : Region.wanted oi (yielded ops.toArray a.tmps) = true) (hrun : ∀ w, S w → (execOp a.eval oi).run P w = .ok (.value v) w) (ha : a.put oi.dst v = a')
    (h : FlowS P ops Q S fuel (listed.setIfInBounds i true) a' W) : FlowS P ops Q S (fuel + 1) listed a W := by
  subst ha
  simp only [Bool.and_eq_true] at hc
  exact ⟨hp, fun hS => wpAnyH_take (at_of hi) hc.1.1 hc.1.2 hc.2 (fun c a' w' q => hp c _ _ _ (put_defers _ _ _) q) (.inl ⟨hw, fun w' k' => hrun w' k'⟩) hS (h.2 hS)⟩
theorem flows_skip (i : Nat) {oi : Oper} (hp : PanicsSame Q) (hi : (ops.drop i).head? = some oi) (hc : (Region.noSelect ops.toArray && Region.free .any ops.toArray listed i && (Region.ready .any ops.toArray listed).contains i) = true)
    (hw : Region.wanted oi (yielded ops.toArray a.tmps) = false) (ha : a.put oi.dst undef = a')
    (h : FlowS P ops Q S fuel (listed.setIfInBounds i true) a' W) : FlowS P ops Q S (fuel + 1) listed a W := by
  subst ha
  simp only [Bool.and_eq_true] at hc
  exact ⟨hp, fun hS => wpAnyH_take (at_of hi) hc.1.1 hc.1.2 hc.2 (fun c a' w' q => hp c _ _ _ (put_defers _ _ _) q) (.inr ⟨hw, rfl⟩) hS (h.2 hS)⟩
theorem flows_one (i : Nat) {oi : Oper} (hp : PanicsSame Q) (hi : (ops.drop i).head? = some oi) (hr : Region.ready .any ops.toArray listed = [i]) (hw : Region.wanted oi (yielded ops.toArray a.tmps) = true)
    (h : oi.wp P a W (fun a' w' => S w' ∧ FlowS P ops Q S fuel (listed.setIfInBounds i true) a' w') Q) : FlowS P ops Q S (fuel + 1) listed a W :=
  ⟨hp, fun _ => wpAnyH_all hr (by simp) fun j hj => by
    obtain rfl : j = i := by simpa using hj
    refine wpOp_mono (K := fun a' w' => S w' ∧ FlowS P ops Q S fuel (listed.setIfInBounds j true) a' w') (fun a' w' h' => ⟨h'.1, h'.2.2 h'.1⟩) ?_
    unfold wpOp
    simp only [at_of hi, hw, if_true]
    exact .inl h⟩
theorem flows_any (rs : List Nat) (hp : PanicsSame Q) (hr : Region.ready .any ops.toArray listed = rs) (hne : rs ≠ [])
    (h : ∀ i ∈ rs, ∃ oi, (ops.drop i).head? = some oi ∧ Region.wanted oi (yielded ops.toArray a.tmps) = true ∧
      oi.wp P a W (fun a' w' => S w' ∧ FlowS P ops Q S fuel (listed.setIfInBounds i true) a' w') Q) : FlowS P ops Q S (fuel + 1) listed a W :=
  ⟨hp, fun _ => wpAnyH_all hr hne fun j hj => by
    obtain ⟨oi, hi, hw, h⟩ := h j hj
    refine wpOp_mono (K := fun a' w' => S w' ∧ FlowS P ops Q S fuel (listed.setIfInBounds j true) a' w') (fun a' w' h' => ⟨h'.1, h'.2.2 h'.1⟩) ?_
    unfold wpOp
    simp only [at_of hi, hw, if_true]
    exact .inl h⟩
theorem flows_done (hp : PanicsSame Q) (hr : Region.ready .any ops.toArray listed = []) (h : Q .normal a W) : FlowS P ops Q S fuel listed a W :=
  ⟨hp, fun _ => wpAnyH_done hr h fuel⟩
end
end Go.Own

/- Blocks of an arena: the program's Set. -/
namespace Go.Own
open Go Go.RowKit
theorem St.apart {B : Nat} {w0 w : World} {l : List Ob} {i j g p : Nat} {e T e' : TypeId} {cs : List Value} {A : Ar} {v : Value} (h : St B w0 w l) (hi : l[i]? = some (RowO g e cs)) (hj : l[j]? = some (ArO T e' p A)) (hij : i < j) (ha : ArAt T e' w p A v) :
    ¬ v.ownBlock = some g := by
  obtain ⟨F, G, ⟨_, hF, _⟩, ⟨v', ha', hG, _⟩, hd⟩ := h.two hi hj hij
  have e1 := ha.row; have e2 := ha'.row
  unfold Row at e1 e2
  rw [e1] at e2
  injection e2 with e2; injection e2 with e2
  have e3 : v = v' := by simpa using e2
  subst e3
  intro hv
  exact hd g hF (hG g (.inr hv))
/-- Both tags are laid, if such a block may be there. -/
def setI (b : List UInt8) (o s : Int) (u : Bool) : Option (List UInt8) := if isSize s = true ∧ couldB b o s = true then some (setB b ⟨o.toNat, s.toNat, u⟩) else none
end Go.Own
namespace Go.Proofs.Ytjijniillehfoaa
open Go Go.RowKit Go.Own
set_option linter.unusedVariables false
set_option maxRecDepth 100000
def errS (x : Option (List UInt8)) : Value := match x with | none => .iface 183 (.int .i64 1) | some _ => .nilIface
section
variable {B : Nat} {w0 w : World} {l : List Ob} {i p : Nat} {A : Ar}
set_option maxHeartbeats 4000000 in
theorem blk_Set (h : St B w0 w l) (hi : l[i]? = some (ArT p A)) (o s : Int) (u : Bool) :
    Calls Try.prog 61 #[arP p, .agg #[.int .i64 o, .int .i64 s, .bool u]] w fun e w' => e = .returned (errS (setI A.b o s u)) ∧ St B w0 w' (l.set i (ArT p { A with b := (setI A.b o s u).getD A.b })) := by
  obtain ⟨hsm, hbs⟩ := ar_small h hi
  have H := Lib.hid h; have HI := Lib.hid hi
  clear h hi
  cases hz : isSize s with
  | false =>
    have hn : setI A.b o s u = none := by unfold setI; rw [if_neg (fun h => by rw [hz] at h; exact Bool.false_ne_true h.1)]
    have hS : (ArT p { A with b := (none : Option (List UInt8)).getD A.b }) = ArT p A := rfl
    rw [hn, hS, set_same HI.out]
    have ht : tagOf s u = 0 := tagOf_zero.2 hz
    clear hn hS hz
    go_enter Try.func61, Try.ntmps61
    go_wp2_with fail
    have h1 := H.out.addRow 77 [.int .i64 o, .int .i64 s, .bool u]
    generalize w.alloc (Obj.cells #[Value.int IntKind.i64 o, Value.int IntKind.i64 s, Value.bool u] 77 (0, 0)) = w1 at h1 ⊢
    generalize w.heap.size = g at h1 ⊢
    have H1 := Lib.hid h1
    clear h1
    have kc := tag_Pack w1 s u
    rw [ht] at kc
    with_reducible refine kc.mono ?_
    clear kc ht
    rintro e w' ⟨rfl, rfl⟩
    go_wp2
    go_ret
    exact ⟨rfl, H1.out.tail⟩
  | true =>
    have hx := tagOf_rng s u
    have hx0 : tagOf s u ≠ 0 := fun h => by rw [tagOf_zero.1 h] at hz; cases hz
    obtain ⟨X, hX⟩ : ∃ X : Nat, tagOf s u = X := ⟨(tagOf s u).toNat, by omega⟩
    have hX0 : ((X : Int) == 0) = false := by rw [beq_eq_false_iff_ne]; omega
    have hX1 : X ≤ 16385 := by omega
    have hzz := (isSize_iff s).1 hz
    cases hc : couldB A.b o s with
    | false =>
      have hn : setI A.b o s u = none := by unfold setI; rw [if_neg (fun h => by rw [hc] at h; exact Bool.false_ne_true h.2)]
      have hS : (ArT p { A with b := (none : Option (List UInt8)).getD A.b }) = ArT p A := rfl
      rw [hn, hS, set_same HI.out]
      clear hn hS hz hzz hx hx0
      go_enter Try.func61, Try.ntmps61
      go_wp2_with fail
      have h1 := H.out.addRow 77 [.int .i64 o, .int .i64 s, .bool u]
      generalize w.alloc (Obj.cells #[Value.int IntKind.i64 o, Value.int IntKind.i64 s, Value.bool u] 77 (0, 0)) = w1 at h1 ⊢
      generalize w.heap.size = g at h1 ⊢
      have H1 := Lib.hid h1
      clear h1
      have kc := tag_Pack w1 s u
      rw [hX] at kc
      with_reducible refine kc.mono ?_
      clear kc hX
      rintro e w' ⟨rfl, rfl⟩
      have c0 : w1.cell? ⟨g, 0, none⟩ = some (.int .i64 o) := (H1.out.row (i := 0) rfl).cell 0
      have c1 : w1.cell? ⟨g, 1, none⟩ = some (.int .i64 s) := (H1.out.row (i := 0) rfl).cell 1
      have kc := blk_fits H1.out (i := i + 1) HI.out o s
      rw [hc] at kc
      go_wp2_with fail
      with_reducible refine kc.mono ?_
      clear kc hc
      rintro e w' ⟨rfl, rfl⟩
      go_wp2
      go_ret
      exact ⟨rfl, H1.out.tail⟩
    | true =>
      obtain ⟨c1, c2, c3, c4⟩ := couldB_iff.1 hc
      obtain ⟨O, ho⟩ := Int.eq_ofNat_of_zero_le (show 0 ≤ o by omega)
      obtain ⟨S, hs⟩ := Int.eq_ofNat_of_zero_le (show 0 ≤ s by omega)
      have hOS : O + S ≤ A.b.length := by omega
      have hn : setI A.b o s u = some (layAt (layAt A.b O X) (O + S - 8) X) := by
        unfold setI setB tagB
        rw [if_pos ⟨hz, hc⟩]
        simp only
        rw [show o.toNat = O by omega, show s.toNat = S by omega, ← hs, hX, Int.toNat_natCast]
      rw [hn]
      simp only [Option.getD_some]
      rw [show errS (some (layAt (layAt A.b O X) (O + S - 8) X)) = .nilIface from rfl]
      have ho1 : 184 ≤ o := by omega
      have ho2 : o ≤ 16384 := by omega
      have hs1 : 32 ≤ s := by omega
      have hs2 : s ≤ 16384 := by omega
      have HOS := Lib.hid (And.intro ho (And.intro hs hOS))
      have HC := Lib.hid hc
      clear hn hz hzz hx hx0 c1 c2 c3 c4 hOS ho hs
      go_enter Try.func61, Try.ntmps61
      go_wp2_with fail
      have h1 := H.out.addRow 77 [.int .i64 o, .int .i64 s, .bool u]
      generalize w.alloc (Obj.cells #[Value.int IntKind.i64 o, Value.int IntKind.i64 s, Value.bool u] 77 (0, 0)) = w1 at h1 ⊢
      generalize w.heap.size = g at h1 ⊢
      have H1 := Lib.hid h1
      clear h1
      have kc := tag_Pack w1 s u
      rw [hX] at kc
      with_reducible refine kc.mono ?_
      clear kc hX
      rintro e w' ⟨rfl, rfl⟩
      have c0 : w1.cell? ⟨g, 0, none⟩ = some (.int .i64 o) := (H1.out.row (i := 0) rfl).cell 0
      have c1 : w1.cell? ⟨g, 1, none⟩ = some (.int .i64 s) := (H1.out.row (i := 0) rfl).cell 1
      have kc := blk_fits H1.out (i := i + 1) HI.out o s
      rw [hc] at kc
      go_wp2_with fail
      with_reducible refine kc.mono ?_
      clear kc hc
      rintro e w' ⟨rfl, rfl⟩
      go_wp2
      clear c0 c1
      obtain ⟨v, hva, hto⟩ := H1.out.drew.arTo (i := i + 1) HI.out
      have HNE := Lib.hid (H1.out.drew.apart (i := 0) (j := i + 1) rfl HI.out (by omega) hva)
      have HR := Lib.hid (H1.out.drew.row (i := 0) rfl)
      have HV := Lib.hid hva; have HTO := Lib.hid hto
      have u0 : IntKind.u64.wrap o = o := IntWalk.u64_in _ (by omega)
      have u1 : IntKind.u64.wrap ((A.base : Int) + o) = (A.base : Int) + o := IntWalk.u64_in _ (by omega)
      clear hva hto
      refine flowe_begin (F := fun k => v.ownBlock = some k) hmixed 10 rfl (by repeat (first | with_reducible refine ps_then ?_ | with_reducible refine ps_block ?_ | with_reducible exact ps_body | refine ps_then ?_ | refine ps_block ?_ | exact ps_body)) (fun hps => ?_)
      simp only [List.replicate]
      have kk := (Keep.refl (fun k => v.ownBlock = some k) (w1)).drew
      refine flowe_take 0 (v := ?_) (a' := ?_) hps rfl (by kernel_rfl) rfl ?_ ?_ ?_
      rotate_left 2
      · intro w' hk; go_simp; try rfl
      · simp only [Act.put, List.setIfInBounds_toArray, List.set_cons_succ, List.set_cons_zero]; try rfl
      refine flowe_take 1 (v := ?_) (a' := ?_) hps rfl (by kernel_rfl) rfl ?_ ?_ ?_
      rotate_left 2
      · intro w' hk; go_simp; try rfl
      · simp only [Act.put, List.setIfInBounds_toArray, List.set_cons_succ, List.set_cons_zero]; try rfl
      refine flowe_take 3 (v := ?_) (a' := ?_) hps rfl (by kernel_rfl) rfl ?_ ?_ ?_
      rotate_left 2
      · intro w' hk; go_simp; try rfl
      · simp only [Act.put, List.setIfInBounds_toArray, List.set_cons_succ, List.set_cons_zero]; try rfl
      refine flowe_take 4 (v := ?_) (a' := ?_) hps rfl (by kernel_rfl) rfl ?_ ?_ ?_
      rotate_left 2
      · intro w' hk; have hr := (HR.out.keep hk HNE.out).cell 0; simp only [List.getElem?_cons_succ, List.getElem?_cons_zero] at hr; go_simp; try rfl
      · simp only [Act.put, List.setIfInBounds_toArray, List.set_cons_succ, List.set_cons_zero]; try rfl
      refine flowe_take 5 (v := ?_) (a' := ?_) hps rfl (by kernel_rfl) rfl ?_ ?_ ?_
      rotate_left 2
      · intro w' hk; go_simp; try rfl
      · simp only [Act.put, List.setIfInBounds_toArray, List.set_cons_succ, List.set_cons_zero]; try rfl
      refine flowe_take 7 (v := ?_) (a' := ?_) hps rfl (by kernel_rfl) rfl ?_ ?_ ?_
      rotate_left 2
      · intro w' hk; go_simp; try rfl
      · simp only [Act.put, List.setIfInBounds_toArray, List.set_cons_succ, List.set_cons_zero]; try rfl
      refine flowe_one 2 hps rfl (by kernel_rfl) rfl (wp_next (fun K hK => ?_))
      go_simp
      have kc := arena_Base _ p A v HV.out
      with_reducible refine kc.mono ?_
      clear kc
      rintro e w' ⟨rfl, rfl⟩
      refine hK _ _ (flow_step kk ?_ ?_)
      · first | exact kp | exact Keep.refl _ _ | exact (Keep.refl _ _).alloc _
      clear kk hK; try clear kp
      intro kk
      refine flowe_take 6 (v := ?_) (a' := ?_) hps rfl (by kernel_rfl) rfl ?_ ?_ ?_
      rotate_left 2
      · intro w' hk; go_simp; try rfl
      · simp only [Act.put, List.setIfInBounds_toArray, List.set_cons_succ, List.set_cons_zero]; try rfl
      refine flowe_one 8 hps rfl (by kernel_rfl) rfl (wp_next (fun K hK => ?_))
      go_simp
      have kc := arena_SetWord_ok _ p A v HV.out ((A.base : Int) + o) O (by have := HOS.out; omega) (X : Int) X rfl (by omega) (by have := HOS.out; omega)
      with_reducible refine kc.mono ?_
      clear kc
      rintro e w2 ⟨rfl, hv2, k2⟩
      have HV2 := Lib.hid hv2
      have h2 := HTO.out _ _ v hv2 (k2.mono fun _ _ h => .inr h) (.inl rfl)
      rw [List.set_cons_succ] at h2
      have H2 := Lib.hid h2
      have kp := k2
      clear hv2 k2 h2
      refine hK _ _ (flow_step kk ?_ ?_)
      · first | exact kp | exact Keep.refl _ _ | exact (Keep.refl _ _).alloc _
      clear kk hK; try clear kp
      intro kk
      refine flowe_take 9 (v := ?_) (a' := ?_) hps rfl (by kernel_rfl) rfl ?_ ?_ ?_
      rotate_left 2
      · intro w' hk; go_simp; try rfl
      · simp only [Act.put, List.setIfInBounds_toArray, List.set_cons_succ, List.set_cons_zero]; try rfl
      refine flowe_done hps (by kernel_rfl) ?_
      clear kk HR HV HTO u0 u1 HNE HV2
      go_wp2
      have hil : i < l.length := (List.getElem?_eq_some_iff.1 HI.out).1
      have hi2 : (RowO g 77 [.int .i64 o, .int .i64 s, .bool u] :: l.set i (ArT p { A with b := layAt A.b O X }))[i + 1]? = some (ArT p { A with b := layAt A.b O X }) := by
        rw [List.getElem?_cons_succ]; exact List.getElem?_set_self hil
      have h2' : St B w0 w2 (RowO g 77 [.int .i64 o, .int .i64 s, .bool u] :: l.set i (ArT p { A with b := layAt A.b O X })) := H2.out
      obtain ⟨v', hva, hto⟩ := h2'.drew.arTo (i := i + 1) hi2
      have HNE := Lib.hid (h2'.drew.apart (i := 0) (j := i + 1) rfl hi2 (by omega) hva)
      have HR := Lib.hid (h2'.drew.row (i := 0) rfl)
      have HV := Lib.hid hva; have HTO := Lib.hid hto
      have hll : (layAt A.b O X).length = A.b.length := layAt_length A.b O X (by have := HOS.out; omega)
      have HLL := Lib.hid hll
      have u0 : IntKind.i64.wrap (o + s) = o + s := IntWalk.i64_in _ (by omega)
      have u1 : IntKind.i64.wrap (o + s - 8) = o + s - 8 := IntWalk.i64_in _ (by omega)
      have u2 : IntKind.u64.wrap (o + s - 8) = o + s - 8 := IntWalk.u64_in _ (by omega)
      have u3 : IntKind.u64.wrap ((A.base : Int) + (o + s - 8)) = (A.base : Int) + (o + s - 8) := IntWalk.u64_in _ (by omega)
      clear hva hto hi2 h2' hll hil
      refine flowe_begin (F := fun k => v'.ownBlock = some k) hmixed 14 rfl (by repeat (first | with_reducible refine ps_then ?_ | with_reducible refine ps_block ?_ | with_reducible exact ps_body | refine ps_then ?_ | refine ps_block ?_ | exact ps_body)) (fun hps => ?_)
      simp only [List.replicate]
      have kk := (Keep.refl (fun k => v'.ownBlock = some k) (w2)).drew
      refine flowe_take 0 (v := ?_) (a' := ?_) hps rfl (by kernel_rfl) rfl ?_ ?_ ?_
      rotate_left 2
      · intro w' hk; go_simp; try rfl
      · simp only [Act.put, List.setIfInBounds_toArray, List.set_cons_succ, List.set_cons_zero]; try rfl
      refine flowe_take 1 (v := ?_) (a' := ?_) hps rfl (by kernel_rfl) rfl ?_ ?_ ?_
      rotate_left 2
      · intro w' hk; go_simp; try rfl
      · simp only [Act.put, List.setIfInBounds_toArray, List.set_cons_succ, List.set_cons_zero]; try rfl
      refine flowe_take 3 (v := ?_) (a' := ?_) hps rfl (by kernel_rfl) rfl ?_ ?_ ?_
      rotate_left 2
      · intro w' hk; go_simp; try rfl
      · simp only [Act.put, List.setIfInBounds_toArray, List.set_cons_succ, List.set_cons_zero]; try rfl
      refine flowe_take 4 (v := ?_) (a' := ?_) hps rfl (by kernel_rfl) rfl ?_ ?_ ?_
      rotate_left 2
      · intro w' hk; have hr := (HR.out.keep hk HNE.out).cell 0; simp only [List.getElem?_cons_succ, List.getElem?_cons_zero] at hr; go_simp; try rfl
      · simp only [Act.put, List.setIfInBounds_toArray, List.set_cons_succ, List.set_cons_zero]; try rfl
      refine flowe_take 5 (v := ?_) (a' := ?_) hps rfl (by kernel_rfl) rfl ?_ ?_ ?_
      rotate_left 2
      · intro w' hk; go_simp; try rfl
      · simp only [Act.put, List.setIfInBounds_toArray, List.set_cons_succ, List.set_cons_zero]; try rfl
      refine flowe_take 6 (v := ?_) (a' := ?_) hps rfl (by kernel_rfl) rfl ?_ ?_ ?_
      rotate_left 2
      · intro w' hk; have hr := (HR.out.keep hk HNE.out).cell 1; simp only [List.getElem?_cons_succ, List.getElem?_cons_zero] at hr; go_simp; try rfl
      · simp only [Act.put, List.setIfInBounds_toArray, List.set_cons_succ, List.set_cons_zero]; try rfl
      refine flowe_take 7 (v := ?_) (a' := ?_) hps rfl (by kernel_rfl) rfl ?_ ?_ ?_
      rotate_left 2
      · intro w' hk; go_simp; try rfl
      · simp only [Act.put, List.setIfInBounds_toArray, List.set_cons_succ, List.set_cons_zero]; try rfl
      refine flowe_take 8 (v := ?_) (a' := ?_) hps rfl (by kernel_rfl) rfl ?_ ?_ ?_
      rotate_left 2
      · intro w' hk; go_simp; try rfl
      · simp only [Act.put, List.setIfInBounds_toArray, List.set_cons_succ, List.set_cons_zero]; try rfl
      refine flowe_take 9 (v := ?_) (a' := ?_) hps rfl (by kernel_rfl) rfl ?_ ?_ ?_
      rotate_left 2
      · intro w' hk; go_simp; try rfl
      · simp only [Act.put, List.setIfInBounds_toArray, List.set_cons_succ, List.set_cons_zero]; try rfl
      refine flowe_take 11 (v := ?_) (a' := ?_) hps rfl (by kernel_rfl) rfl ?_ ?_ ?_
      rotate_left 2
      · intro w' hk; go_simp; try rfl
      · simp only [Act.put, List.setIfInBounds_toArray, List.set_cons_succ, List.set_cons_zero]; try rfl
      refine flowe_one 2 hps rfl (by kernel_rfl) rfl (wp_next (fun K hK => ?_))
      go_simp
      have kc := arena_Base _ p { A with b := layAt A.b O X } v' HV.out
      with_reducible refine kc.mono ?_
      clear kc
      rintro e w' ⟨rfl, rfl⟩
      refine hK _ _ (flow_step kk ?_ ?_)
      · first | exact kp | exact Keep.refl _ _ | exact (Keep.refl _ _).alloc _
      clear kk hK; try clear kp
      intro kk
      refine flowe_take 10 (v := ?_) (a' := ?_) hps rfl (by kernel_rfl) rfl ?_ ?_ ?_
      rotate_left 2
      · intro w' hk; go_simp; try rfl
      · simp only [Act.put, List.setIfInBounds_toArray, List.set_cons_succ, List.set_cons_zero]; try rfl
      refine flowe_one 12 hps rfl (by kernel_rfl) rfl (wp_next (fun K hK => ?_))
      go_simp
      have kc := arena_SetWord_ok _ p { A with b := layAt A.b O X } v' HV.out ((A.base : Int) + (o + s - 8)) (O + S - 8) (by have := HOS.out; show _ = (A.base : Int) + _; omega) (X : Int) X rfl (by omega) (by have := HOS.out; show _ ≤ (layAt A.b O X).length; rw [HLL.out]; omega)
      with_reducible refine kc.mono ?_
      clear kc
      rintro e w3 ⟨rfl, hv3, k3⟩
      have h3 := HTO.out _ _ v' hv3 (k3.mono fun _ _ h => .inr h) (.inl rfl)
      rw [List.set_cons_succ, List.set_set] at h3
      have H3 := Lib.hid h3
      have kp := k3
      clear hv3 k3 h3
      refine hK _ _ (flow_step kk ?_ ?_)
      · first | exact kp | exact Keep.refl _ _ | exact (Keep.refl _ _).alloc _
      clear kk hK; try clear kp
      intro kk
      refine flowe_take 13 (v := ?_) (a' := ?_) hps rfl (by kernel_rfl) rfl ?_ ?_ ?_
      rotate_left 2
      · intro w' hk; go_simp; try rfl
      · simp only [Act.put, List.setIfInBounds_toArray, List.set_cons_succ, List.set_cons_zero]; try rfl
      refine flowe_done hps (by kernel_rfl) ?_
      clear kk HR HV HTO u0 u1 u2 u3 HNE
      go_wp2
      go_ret
      exact ⟨rfl, H3.out.tail⟩
end
end Go.Proofs.Ytjijniillehfoaa

/- Blocks of bytes: the reference's Lay and Set. -/
namespace Go.Own
open Go Go.RowKit
/-- 'b[j] = x' on a row of bytes of one's own. -/
theorem St.setByte {B : Nat} {w0 w : World} {l : List Ob} {i : Nat} {e : TypeId} {v : Value} {b : List UInt8} (h : St B w0 w l) (hi : l[i]? = some (OwO e 1 v b.length (b.map bv))) (j : Nat) (hj : j < b.length) :
    ∃ g cap, v = .slice (some ⟨g, 0, none⟩) b.length cap ∧ (∃ u, w.cell? ⟨g, j, none⟩ = some u) ∧ w.frozen? ⟨g, j, none⟩ = false ∧
      ∀ x, St B w0 (w.setCell ⟨g, j, none⟩ (bv x)) (l.set i (OwO e 1 v b.length ((b.set j x).map bv))) := by
  have ho := h.own hi
  obtain ⟨g, cap, cur, rfl, _⟩ := own_some ho (by rw [List.length_map]; omega)
  refine ⟨g, cap, rfl, ⟨bv b[j], ?_⟩, ho.frozenAt j, fun x => ?_⟩
  · rw [ho.cellAt j (by omega)]; simp [hj]
  · refine h.ownTo hi _ _ _ _ ?_ ((Keep.refl (fun k => (Value.slice (some ⟨g, 0, none⟩) b.length cap).ownBlock = some k) w).setCell (p := ⟨g, j, none⟩) (.inl rfl) _) (.inl rfl)
    rw [List.map_set]; exact (ho.stored j (bv x)).1
theorem St.bsV {B : Nat} {w0 w : World} {l : List Ob} {i : Nat} {e : TypeId} {a : Option Addr} {n c m : Nat} {b : List UInt8} (h : St B w0 w l) (hi : l[i]? = some (OwO e 1 (.slice a n c) m (b.map bv))) : Bs w a n c b := by
  obtain ⟨_, _, e, hb⟩ := h.bsOwn hi
  cases e; exact hb
theorem layAt_eq (b : List UInt8) (o V : Nat) (h : o + 8 ≤ b.length) : layAt b o V = b.take o ++ low V 8 ++ b.drop (o + 8) := by
  unfold layAt lay; rw [low_length]
end Go.Own
namespace Go.Proofs.Ytjijniillehfoaa
open Go Go.RowKit Go.Own
set_option linter.unusedVariables false
set_option maxRecDepth 100000
section
variable {B : Nat} {w0 w : World} {l : List Ob}
set_option maxHeartbeats 4000000 in
theorem rb_Lay (h : St B w0 w l) (a : Option Addr) (n c : Nat) (b : List UInt8) (hb : Bs w a n c b) (hsm : b.length ≤ 65536) (o : Int) (O : Nat) (ho : o = O) (hO : O + 8 ≤ b.length) (x : Int) (X : Nat) (hx : x = X) (hX : X < 18446744073709551616) :
    Calls Try.prog 162 #[.slice a n c, .int .i64 o, .int .u64 x] w fun e w' => ∃ v, e = .returned v ∧ St B w0 w' (OwB v (layAt b O X) :: l) := by
  subst hx; subst ho
  have hn := hb.len
  have hcap := Sl.cap hb; have hroom := Sl.room hb
  subst hn
  have H := Lib.hid h; have HB := Lib.hid hb
  have o1 : O ≤ 65536 := by omega
  have hm : b.length ≤ 140737488355328 := by omega
  clear h hb
  go_enter Try.func162, Try.ntmps162
  go_wp2_with (at_builtin; go_must (refine app_st_new rfl (.tmp 10) (.tmp 11) rfl H.out rfl _ _ _ b rfl HB.out hm ?_; intro v1 w1 h1; have H1 := Lib.hid h1; clear h1))
  have kc := ref_Low w1 (X : Int) 8 8 rfl (by omega) (by omega) (by decide)
  rw [Int.toNat_natCast] at kc
  with_reducible refine kc.mono ?_
  clear kc
  rintro e w2 ⟨v2, rfl, p2, b2⟩
  have h2 := H1.out.addOwn b2 p2
  have hl8 : (low X 8).length = 8 := low_length _ _
  rw [hl8] at h2
  obtain ⟨lw, hlw⟩ : ∃ lw, lw = low X 8 := ⟨_, rfl⟩
  rw [← hlw] at h2 hl8
  have HLW := Lib.hid hlw
  obtain ⟨a2, c2, rfl, hb2⟩ := h2.bsOwn (i := 0) rfl
  obtain ⟨a1, c1, rfl, _⟩ := h2.bsOwn (i := 1) rfl
  have H2 := Lib.hid h2; have HL8 := Lib.hid hl8; have HO := Lib.hid hO
  have hlen : ∀ k, k ≤ 8 → (b.take O ++ lw.take k ++ b.drop (O + k)).length = b.length := fun k hk => by
    rw [List.length_append, List.length_append, List.length_take, List.length_take, List.length_drop]; omega
  have HLEN := Lib.hid hlen
  clear h2 p2 b2 hb2 hlw hl8 hlen hO HB H H1
  go_wp2
  go_loopw [9] (fun vi wr => ∃ k : Nat, k ≤ 8 ∧ vi = .int .i64 k ∧ St B w0 wr (OwO 5 1 (.slice a2 8 c2) 8 (lw.map bv) :: OwO 5 1 (.slice a1 b.length c1) b.length ((b.take O ++ lw.take k ++ b.drop (O + k)).map bv) :: l)) (fun vi _ => 8 - (intOf vi).toNat)
  case atStart =>
    refine ⟨0, by omega, rfl, ?_⟩
    rw [List.take_zero, List.append_nil, Nat.add_zero, List.take_append_drop]
    exact H2.out
  case round =>
    obtain ⟨k, hk, rfl, hs⟩ := hrel
    by_cases hlt : k < 8
    · obtain ⟨cur, hcur⟩ : ∃ cur, cur = b.take O ++ lw.take k ++ b.drop (O + k) := ⟨_, rfl⟩
      have hcl : cur.length = b.length := by rw [hcur]; exact HLEN.out k hk
      rw [← hcur] at hs
      have hOk : O + k < b.length := by have := HO.out; omega
      have hs' : St B w0 wr (OwO 5 1 (.slice a2 8 c2) 8 (lw.map bv) :: OwO 5 1 (.slice a1 b.length c1) cur.length (cur.map bv) :: l) := by rw [hcl]; exact hs
      obtain ⟨g, cap, e1, ⟨u, hu⟩, hf, hset⟩ := hs'.setByte (i := 1) rfl (O + k) (by omega)
      rw [hcl] at e1
      cases e1
      obtain ⟨b', o', e2, hc⟩ := (hs.bsV (i := 0) rfl).at k (by rw [HL8.out]; exact hlt)
      subst e2
      have hc : wr.cell? ⟨b', o' + k, none⟩ = some (.int .u8 ((lw[k]'(by rw [HL8.out]; exact hlt)).toNat : Nat)) := hc
      have hset2 := hset (lw[k]'(by rw [HL8.out]; exact hlt))
      have hnew : cur.set (O + k) (lw[k]'(by rw [HL8.out]; exact hlt)) = b.take O ++ lw.take (k + 1) ++ b.drop (O + (k + 1)) := by
        have := HL8.out
        rw [hcur, List.set_append_right _ _ (by simp; omega)]
        rw [show O + k - (b.take O ++ lw.take k).length = 0 by simp; omega]
        rw [List.drop_eq_getElem_cons (by omega), List.set_cons_zero, List.take_succ_eq_append_getElem (by omega)]
        simp only [List.append_assoc, List.singleton_append, Nat.add_assoc]
      rw [hnew, hcl] at hset2
      generalize lw[k]'(by rw [HL8.out]; exact hlt) = y at *
      have ht : ((O : Int) + (k : Int)).toNat = O + k := by omega
      have HSET := Lib.hid (show St B w0 (wr.setCell ⟨g, O + k, none⟩ (.int .u8 (y.toNat : Nat))) _ from hset2)
      clear hset hset2 hnew hs hs' hcur hcl
      go_wp2
      exact ⟨⟨k + 1, by omega, by go_num, HSET.out⟩, by simp [intOf]; omega⟩
    · obtain rfl : k = 8 := by omega
      have HS := Lib.hid hs.tail
      clear hs
      go_wp2
      go_ret
      refine ⟨_, rfl, ?_⟩
      have := HS.out
      rw [List.take_of_length_le (show lw.length ≤ 8 by rw [HL8.out]; exact Nat.le_refl _), HLW.out, ← layAt_eq b O X HO.out] at this
      unfold OwB
      rw [layAt_length b O X HO.out]
      exact this
end
end Go.Proofs.Ytjijniillehfoaa

/- Blocks of bytes: the reference's Set. -/
namespace Go.Own
open Go Go.RowKit
/-- What was made beside nothing lies beside all there is. -/
theorem St.lift1 {B : Nat} {w0 w w' : World} {l : List Ob} {P : Ob} (h : St B w0 w l) (s : St w.heap.size w w' [P]) (hm : P.m = true) : St B w0 w' (P :: l) := by
  obtain ⟨F, h1, _, h3, _⟩ := s.at (i := 0) rfl
  exact h.add s.end h1 (h3 hm)
end Go.Own
namespace Go.Proofs.Ytjijniillehfoaa
open Go Go.RowKit Go.Own
set_option linter.unusedVariables false
set_option maxRecDepth 100000
section
variable {B : Nat} {w0 w : World} {l : List Ob}
set_option maxHeartbeats 4000000 in
theorem rb_Set_no (h : St B w0 w l) (a : Option Addr) (n c : Nat) (b : List UInt8) (hb : Bs w a n c b) (o s : Int) (u : Bool) (hn : setI b o s u = none) :
    Calls Try.prog 69 #[.slice a n c, .agg #[.int .i64 o, .int .i64 s, .bool u]] w fun e w' => e = .returned (.tuple #[.slice a n c, .bool false]) ∧ St B w0 w' l := by
  have hm := hb.len
  have hcap := Sl.cap hb; have hroom := Sl.room hb
  subst hm
  have H := Lib.hid h; have HB := Lib.hid hb
  clear h hb
  go_enter Try.func69, Try.ntmps69
  go_wp2_with fail
  have h1 := H.out.addRow 77 [.int .i64 o, .int .i64 s, .bool u]
  have hb1 := HB.out.below ((Below.refl _ _).alloc (Nat.le_refl _) (.cells #[.int .i64 o, .int .i64 s, .bool u] 77 (0, 0)))
  generalize w.alloc (Obj.cells #[Value.int IntKind.i64 o, Value.int IntKind.i64 s, Value.bool u] 77 (0, 0)) = w1 at h1 hb1 ⊢
  generalize w.heap.size = g at h1 ⊢
  have H1 := Lib.hid h1; have HB1 := Lib.hid hb1
  have c0 : w1.cell? ⟨g, 0, none⟩ = some (.int .i64 o) := (H1.out.row (i := 0) rfl).cell 0
  have c1 : w1.cell? ⟨g, 1, none⟩ = some (.int .i64 s) := (H1.out.row (i := 0) rfl).cell 1
  clear h1 hb1
  with_reducible refine (ref_IsSize w1 s).mono ?_
  rintro e w' ⟨rfl, rfl⟩
  go_wp2_with fail
  have kc := ref_Could w1 _ _ _ _ HB1.out o s
  with_reducible refine kc.mono ?_
  clear kc
  rintro e w' ⟨rfl, rfl⟩
  have hd : isSize s = false ∨ (isSize s = true ∧ couldB b o s = false) := by
    unfold setI at hn
    cases h1 : isSize s
    · exact .inl rfl
    · cases h2 : couldB b o s
      · exact .inr ⟨rfl, rfl⟩
      · rw [if_pos ⟨h1, h2⟩] at hn; cases hn
  clear hn
  rcases hd with hd | ⟨hd, hd2⟩
  · rw [hd]
    generalize couldB b o s = cb at *
    clear hd
    go_wp2
    go_ret2
    exact ⟨rfl, H1.out.tail⟩
  · rw [hd, hd2]
    clear hd hd2
    go_wp2
    go_ret2
    exact ⟨rfl, H1.out.tail⟩
set_option maxHeartbeats 4000000 in
theorem rb_Set_ok (h : St B w0 w l) (a : Option Addr) (n c : Nat) (b : List UInt8) (hb : Bs w a n c b) (hsm : b.length ≤ 65536) (o s : Int) (u : Bool) (y : List UInt8) (hy : setI b o s u = some y) :
    Calls Try.prog 69 #[.slice a n c, .agg #[.int .i64 o, .int .i64 s, .bool u]] w fun e w' => ∃ v, e = .returned (.tuple #[v, .bool true]) ∧ St B w0 w' (OwB v y :: l) := by
  have hm := hb.len
  have hcap := Sl.cap hb; have hroom := Sl.room hb
  subst hm
  have hd : isSize s = true ∧ couldB b o s = true := by
    unfold setI at hy
    by_cases h : isSize s = true ∧ couldB b o s = true
    · exact h
    · rw [if_neg h] at hy; cases hy
  obtain ⟨hd1, hd2⟩ := hd
  have hzz := (isSize_iff s).1 hd1
  obtain ⟨q1, q2, q3, q4⟩ := couldB_iff.1 hd2
  obtain ⟨O, ho⟩ := Int.eq_ofNat_of_zero_le (show 0 ≤ o by omega)
  obtain ⟨S, hs⟩ := Int.eq_ofNat_of_zero_le (show 0 ≤ s by omega)
  have hx := tagOf_rng s u
  obtain ⟨X, hX⟩ : ∃ X : Nat, tagOf s u = X := ⟨(tagOf s u).toNat, by omega⟩
  have hX1 : X ≤ 16385 := by omega
  have hOS : O + S ≤ b.length := by omega
  have hn : y = layAt (layAt b O X) (O + S - 8) X := by
    unfold setI setB tagB at hy
    rw [if_pos ⟨hd1, hd2⟩] at hy
    simp only [Option.some.injEq] at hy
    rw [show o.toNat = O by omega, show s.toNat = S by omega, ← hs, hX, Int.toNat_natCast] at hy
    exact hy.symm
  subst hn
  have hs1 : 32 ≤ s := by omega
  have hs2 : s ≤ 16384 := by omega
  have ho1 : 184 ≤ o := by omega
  have ho2 : o ≤ 65536 := by omega
  have HOS := Lib.hid (And.intro ho (And.intro hs hOS))
  have H := Lib.hid h; have HB := Lib.hid hb
  clear h hb hy hzz q1 q2 q3 q4 ho hs hx hOS
  go_enter Try.func69, Try.ntmps69
  go_wp2_with fail
  have h1 := H.out.addRow 77 [.int .i64 o, .int .i64 s, .bool u]
  have hb1 := HB.out.below ((Below.refl _ _).alloc (Nat.le_refl _) (.cells #[.int .i64 o, .int .i64 s, .bool u] 77 (0, 0)))
  generalize w.alloc (Obj.cells #[Value.int IntKind.i64 o, Value.int IntKind.i64 s, Value.bool u] 77 (0, 0)) = w1 at h1 hb1 ⊢
  generalize w.heap.size = g at h1 ⊢
  have H1 := Lib.hid h1; have HB1 := Lib.hid hb1
  have c0 : w1.cell? ⟨g, 0, none⟩ = some (.int .i64 o) := (H1.out.row (i := 0) rfl).cell 0
  have c1 : w1.cell? ⟨g, 1, none⟩ = some (.int .i64 s) := (H1.out.row (i := 0) rfl).cell 1
  have c2 : w1.cell? ⟨g, 2, none⟩ = some (.bool u) := (H1.out.row (i := 0) rfl).cell 2
  clear h1 hb1
  have kc := ref_IsSize w1 s
  rw [hd1] at kc
  with_reducible refine kc.mono ?_
  clear kc
  rintro e w' ⟨rfl, rfl⟩
  go_wp2_with fail
  have kc := ref_Could w1 _ _ _ _ HB1.out o s
  rw [hd2] at kc
  with_reducible refine kc.mono ?_
  clear kc hd1 hd2
  rintro e w' ⟨rfl, rfl⟩
  go_wp2_with fail
  have kc := ref_Pack w1 s u
  rw [hX] at kc
  with_reducible refine kc.mono ?_
  clear kc hX
  rintro e w' ⟨rfl, rfl⟩
  go_wp2
  clear c0 c1 c2
  have HR := Lib.hid (H1.out.drew.row (i := 0) rfl)
  have HBD := Lib.hid (HB1.out.drewN 1)
  have u0 : IntKind.i64.wrap (o + s) = o + s := IntWalk.i64_in _ (by omega)
  have u1 : IntKind.i64.wrap (o + s - 8) = o + s - 8 := IntWalk.i64_in _ (by omega)
  refine flowe_begin (F := fun _ => False) hmixed 15 rfl (by repeat (first | with_reducible refine ps_then ?_ | with_reducible refine ps_block ?_ | with_reducible exact ps_body | refine ps_then ?_ | refine ps_block ?_ | exact ps_body)) (fun hps => ?_)
  simp only [List.replicate]
  have kk := (Keep.refl (fun _ => False) (w1)).drew
  refine flowe_take 0 (v := ?_) (a' := ?_) hps rfl (by kernel_rfl) rfl ?_ ?_ ?_
  rotate_left 2
  · intro w' hk; go_simp; try rfl
  · simp only [Act.put, List.setIfInBounds_toArray, List.set_cons_succ, List.set_cons_zero]; try rfl
  refine flowe_take 1 (v := ?_) (a' := ?_) hps rfl (by kernel_rfl) rfl ?_ ?_ ?_
  rotate_left 2
  · intro w' hk; go_simp; try rfl
  · simp only [Act.put, List.setIfInBounds_toArray, List.set_cons_succ, List.set_cons_zero]; try rfl
  refine flowe_take 2 (v := ?_) (a' := ?_) hps rfl (by kernel_rfl) rfl ?_ ?_ ?_
  rotate_left 2
  · intro w' hk; have hr := (HR.out.keep hk (fun h => h)).cell 0; simp only [List.getElem?_cons_succ, List.getElem?_cons_zero] at hr; go_simp; try rfl
  · simp only [Act.put, List.setIfInBounds_toArray, List.set_cons_succ, List.set_cons_zero]; try rfl
  refine flowe_take 3 (v := ?_) (a' := ?_) hps rfl (by kernel_rfl) rfl ?_ ?_ ?_
  rotate_left 2
  · intro w' hk; go_simp; try rfl
  · simp only [Act.put, List.setIfInBounds_toArray, List.set_cons_succ, List.set_cons_zero]; try rfl
  refine flowe_take 5 (v := ?_) (a' := ?_) hps rfl (by kernel_rfl) rfl ?_ ?_ ?_
  rotate_left 2
  · intro w' hk; go_simp; try rfl
  · simp only [Act.put, List.setIfInBounds_toArray, List.set_cons_succ, List.set_cons_zero]; try rfl
  refine flowe_take 6 (v := ?_) (a' := ?_) hps rfl (by kernel_rfl) rfl ?_ ?_ ?_
  rotate_left 2
  · intro w' hk; have hr := (HR.out.keep hk (fun h => h)).cell 0; simp only [List.getElem?_cons_succ, List.getElem?_cons_zero] at hr; go_simp; try rfl
  · simp only [Act.put, List.setIfInBounds_toArray, List.set_cons_succ, List.set_cons_zero]; try rfl
  refine flowe_take 7 (v := ?_) (a' := ?_) hps rfl (by kernel_rfl) rfl ?_ ?_ ?_
  rotate_left 2
  · intro w' hk; go_simp; try rfl
  · simp only [Act.put, List.setIfInBounds_toArray, List.set_cons_succ, List.set_cons_zero]; try rfl
  refine flowe_take 8 (v := ?_) (a' := ?_) hps rfl (by kernel_rfl) rfl ?_ ?_ ?_
  rotate_left 2
  · intro w' hk; have hr := (HR.out.keep hk (fun h => h)).cell 1; simp only [List.getElem?_cons_succ, List.getElem?_cons_zero] at hr; go_simp; try rfl
  · simp only [Act.put, List.setIfInBounds_toArray, List.set_cons_succ, List.set_cons_zero]; try rfl
  refine flowe_take 9 (v := ?_) (a' := ?_) hps rfl (by kernel_rfl) rfl ?_ ?_ ?_
  rotate_left 2
  · intro w' hk; go_simp; try rfl
  · simp only [Act.put, List.setIfInBounds_toArray, List.set_cons_succ, List.set_cons_zero]; try rfl
  refine flowe_take 10 (v := ?_) (a' := ?_) hps rfl (by kernel_rfl) rfl ?_ ?_ ?_
  rotate_left 2
  · intro w' hk; go_simp; try rfl
  · simp only [Act.put, List.setIfInBounds_toArray, List.set_cons_succ, List.set_cons_zero]; try rfl
  refine flowe_take 11 (v := ?_) (a' := ?_) hps rfl (by kernel_rfl) rfl ?_ ?_ ?_
  rotate_left 2
  · intro w' hk; go_simp; try rfl
  · simp only [Act.put, List.setIfInBounds_toArray, List.set_cons_succ, List.set_cons_zero]; try rfl
  refine flowe_one 4 hps rfl (by kernel_rfl) rfl (wp_next (fun K hK => ?_))
  go_simp
  have kc := rb_Lay (St.start w1.drew) a _ c b HBD.out hsm o O HOS.out.1 (by have := HOS.out; omega) (X : Int) X rfl (by omega)
  with_reducible refine kc.mono ?_
  clear kc
  rintro e w2 ⟨v2, rfl, s2⟩
  obtain ⟨a2, d2, rfl, hb2⟩ := s2.bsOwn (i := 0) rfl
  have H2 := Lib.hid (H1.out.drew.lift1 s2 rfl)
  have HB2 := Lib.hid hb2
  have HR := Lib.hid (HR.out.below s2.end)
  have kp := Keep.of_below (F := fun _ => False) s2.end
  clear s2 hb2
  refine hK _ _ (flow_step kk ?_ ?_)
  · first | exact kp | exact Keep.refl _ _ | exact (Keep.refl _ _).alloc _
  clear kk hK; try clear kp
  intro kk
  refine flowe_one 12 hps rfl (by kernel_rfl) rfl (wp_next (fun K hK => ?_))
  go_simp
  have kc := rb_Lay (St.start w2) a2 _ d2 (layAt b O X) HB2.out (by rw [layAt_length b O X (by have := HOS.out; omega)]; exact hsm) (o + s - 8) (O + S - 8) (by have := HOS.out; omega) (by rw [layAt_length b O X (by have := HOS.out; omega)]; have := HOS.out; omega) (X : Int) X rfl (by omega)
  with_reducible refine kc.mono ?_
  clear kc
  rintro e w3 ⟨v3, rfl, s3⟩
  have H3 := Lib.hid (H2.out.lift1 s3 rfl)
  have kp := Keep.of_below (F := fun _ => False) s3.end
  clear s3
  refine hK _ _ (flow_step kk ?_ ?_)
  · first | exact kp | exact Keep.refl _ _ | exact (Keep.refl _ _).alloc _
  clear kk hK; try clear kp
  intro kk
  refine flowe_take 13 (v := ?_) (a' := ?_) hps rfl (by kernel_rfl) rfl ?_ ?_ ?_
  rotate_left 2
  · intro w' hk; go_simp; try rfl
  · simp only [Act.put, List.setIfInBounds_toArray, List.set_cons_succ, List.set_cons_zero]; try rfl
  refine flowe_take 14 (v := ?_) (a' := ?_) hps rfl (by kernel_rfl) rfl ?_ ?_ ?_
  rotate_left 2
  · intro w' hk; go_simp; try rfl
  · simp only [Act.put, List.setIfInBounds_toArray, List.set_cons_succ, List.set_cons_zero]; try rfl
  refine flowe_done hps (by kernel_rfl) ?_
  clear kk HR HBD u0 u1
  go_wp2
  go_ret2
  exact ⟨_, rfl, H3.out.sub (List.Sublist.cons_cons _ ((List.sublist_cons_self ..).trans (List.sublist_cons_self ..)))⟩
end
end Go.Proofs.Ytjijniillehfoaa

/- What a well formed number is. -/
namespace Go.Own
open Go
theorem wfU64 {a : Int} (h : (Lit.int .u64 a).wf = true) : 0 ≤ a ∧ a ≤ 18446744073709551615 := by
  simp [Lit.wf, IntKind.min, IntKind.max, IntKind.bits, IntKind.signed] at h; omega
theorem wfU32 {a : Int} (h : (Lit.int .u32 a).wf = true) : 0 ≤ a ∧ a ≤ 4294967295 := by
  simp [Lit.wf, IntKind.min, IntKind.max, IntKind.bits, IntKind.signed] at h; omega
theorem wfI64 {a : Int} (h : (Lit.int .i64 a).wf = true) : -9223372036854775808 ≤ a ∧ a ≤ 9223372036854775807 := by
  simp [Lit.wf, IntKind.min, IntKind.max, IntKind.bits, IntKind.signed] at h; omega
theorem wfU8 {a : Int} (h : (Lit.int .u8 a).wf = true) : 0 ≤ a ∧ a ≤ 255 := by
  simp [Lit.wf, IntKind.min, IntKind.max, IntKind.bits, IntKind.signed] at h; omega
end Go.Own

/- Cells of a slice of structs; the statements' Pick. -/
namespace Go.Own
open Go Go.RowKit
theorem flat_at {α : Type} (f : α → List Value) (z : Nat) (hz : ∀ d, (f d).length = z) : ∀ (ds : List α) (k : Nat) (hk : k < ds.length) (j : Nat), j < z → (ds.map f).flatten[k * z + j]? = (f ds[k])[j]?
  | [], k, hk, _, _ => absurd hk (Nat.not_lt_zero _)
  | d :: ds, 0, _, j, hj => by
    rw [List.map_cons, List.flatten_cons, Nat.zero_mul, Nat.zero_add, List.getElem?_append_left (by rw [hz]; exact hj)]; rfl
  | d :: ds, k + 1, hk, j, hj => by
    rw [List.map_cons, List.flatten_cons, Nat.succ_mul, List.getElem?_append_right (by rw [hz]; omega), hz, show k * z + z + j - z = k * z + j by omega]
    exact flat_at f z hz ds k (by simpa using hk) j hj
/-- The cells of a slice of structs, each as it is addressed. -/
theorem sl_at {α : Type} {f : α → List Value} {z : Nat} {w : World} {a : Option Addr} {n c : Nat} {ds : List α} (h : Sl w a n c z (ds.map f).flatten) (hz : ∀ d, (f d).length = z) (h0 : 0 < z) (k : Nat) (hk : k < ds.length) :
    ∃ b o, a = some ⟨b, o, none⟩ ∧ ∀ j v, (f ds[k])[j]? = some v → w.cell? ⟨b, o + k * z + j, none⟩ = some v := by
  have h1 := flat_at f z hz ds k hk 0 h0
  have h2 : (f ds[k])[0]? = some ((f ds[k])[0]'(by rw [hz]; exact h0)) := List.getElem?_eq_getElem _
  obtain ⟨b, o, rfl, _⟩ := h.cells _ _ (h1.trans h2)
  refine ⟨b, o, rfl, fun j v hv => ?_⟩
  have hj : j < z := by have := (List.getElem?_eq_some_iff.1 hv).1; rw [hz] at this; exact this
  obtain ⟨b', o', e, hc⟩ := h.cells _ _ ((flat_at f z hz ds k hk j hj).trans hv)
  cases e
  rw [Nat.add_assoc]; exact hc
end Go.Own
namespace Go.Proofs.Ytjijniillehfoaa
open Go Go.RowKit Go.Own
set_option linter.unusedVariables false
set_option maxRecDepth 100000
theorem keep_cell {B : Nat} {w w' : World} {b o : Nat} {v : Value} (hk : Keep (fun x => B ≤ x) w w') (hc : w.cell? ⟨b, o, none⟩ = some v) (hb : b < B := by assumption) : w'.cell? ⟨b, o, none⟩ = some v := by
  rw [cell_of_block (w := w) (p := ⟨b, o, none⟩) (hk.block b (World.block_lt_of_cell? w _ hc) (by show ¬ B ≤ b; omega))]; exact hc
theorem law_Pick (w : World) (n b : Int) (h0 : -9223372036854775808 ≤ n) (h1 : n ≤ 9223372036854775807) (b0 : 0 < b) (b1 : b ≤ 4611686018427387904) :
    Calls Try.prog 29 #[.int .i64 n, .int .i64 b] w fun e w' => e = .returned (.int .i64 (n % b)) ∧ w = w' := by
  have hne : ¬ b = 0 := by omega
  have hbz : (b == 0) = false := by rw [beq_eq_false_iff_ne]; omega
  by_cases hn : 0 ≤ n
  · have ht : n.tmod b = n % b := Int.tmod_eq_emod_of_nonneg hn
    have hp := Int.emod_nonneg n hne
    have hlt := Int.emod_lt_of_pos n b0
    generalize n % b = q at *
    go_enter Try.func29, Try.ntmps29
    go_wp2
    go_ret
    exact ⟨rfl, rfl⟩
  · have hp := Int.emod_nonneg n hne
    have hlt := Int.emod_lt_of_pos n b0
    have ht : n.tmod b = if n % b = 0 then 0 else n % b - b := by
      rw [Int.tmod_eq_emod]
      by_cases hz : n % b = 0
      · have : b ∣ n := Int.dvd_of_emod_eq_zero hz
        simp [hz, this]
      · have : ¬ b ∣ n := fun h => hz (Int.emod_eq_zero_of_dvd h)
        rw [if_neg hz, if_neg (by simp [hn, this])]
        have : (b.natAbs : Int) = b := by omega
        rw [this]
    generalize n % b = q at *
    by_cases hz : q = 0
    · rw [if_pos hz] at ht
      subst hz
      go_enter Try.func29, Try.ntmps29
      go_wp2
      go_ret
      exact ⟨rfl, rfl⟩
    · rw [if_neg hz] at ht
      clear hz
      go_enter Try.func29, Try.ntmps29
      go_wp2
      go_ret
      exact ⟨rI (by omega), rfl⟩
end Go.Proofs.Ytjijniillehfoaa

/- The statements' Blocks: whether two lists of blocks are one. -/
namespace Go.Proofs.Ytjijniillehfoaa
open Go Go.RowKit Go.Own
set_option linter.unusedVariables false
set_option maxRecDepth 100000
theorem mid_keep {F : Nat → Prop} {w w' : World} (hk : Keep F w w') {b o : Nat} {v : Value} (hc : w.cell? ⟨b, o, none⟩ = some v) (hb : ¬ F b) : w'.cell? ⟨b, o, none⟩ = some v := by
  rw [cell_of_block (w := w) (p := ⟨b, o, none⟩) (hk.block b (World.block_lt_of_cell? w _ hc) hb)]; exact hc
set_option maxHeartbeats 4000000 in
theorem law_Blocks (w : World) (a : Option Addr) (c : Nat) (L : List Blk) (a2 : Option Addr) (c2 : Nat) (L2 : List Blk) (h1 : Sl w a L.length c 3 (L.map blC).flatten) (h2 : Sl w a2 L2.length c2 3 (L2.map blC).flatten) :
    Calls Try.prog 63 #[.slice a L.length c, .slice a2 L2.length c2] w fun e w' => e = .returned (.int .i64 (if L = L2 then 1 else 0)) ∧ Below w.heap.size w w' := by
  have p1 := h1.cap; have p2 := h1.room
  have q1 := h2.cap; have q2 := h2.room
  have H1 := Lib.hid h1; have H2 := Lib.hid h2
  clear h1 h2
  by_cases hl : L.length = L2.length
  · obtain ⟨R, hR⟩ : ∃ R : Int, R = (if L = L2 then 1 else 0) := ⟨_, rfl⟩
    rw [← hR]
    have HR := Lib.hid hR; have HLL := Lib.hid hl
    obtain ⟨N, hN⟩ : ∃ N, N = L.length := ⟨_, rfl⟩
    rw [← hl, ← hN]
    rw [← hN] at p1
    have HN := Lib.hid hN
    clear hR hl q1 hN
    go_enter Try.func63, Try.ntmps63
    go_wp2
    go_loopw [5] (fun vi wr => ∃ k : Nat, k ≤ N ∧ vi = .int .i64 k ∧ L.take k = L2.take k ∧ Below w.heap.size w wr) (fun vi _ => N - (intOf vi).toNat)
    case atStart => exact ⟨0, Nat.zero_le _, rfl, rfl, Below.refl _ _⟩
    case round =>
      obtain ⟨k, hk, rfl, ht, hb⟩ := hrel
      by_cases hlt : k < N
      · have l1 : k < L.length := by rw [← HN.out]; exact hlt
        have l2 : k < L2.length := by rw [← HLL.out]; exact l1
        obtain ⟨b1, o1, rfl, r1⟩ := sl_at H1.out blC_len (by decide) k l1
        obtain ⟨b2, o2, rfl, r2⟩ := sl_at H2.out blC_len (by decide) k l2
        have hx : L[k] = L2[k] ↔ L.take (k + 1) = L2.take (k + 1) := by
          rw [List.take_succ_eq_append_getElem l1, List.take_succ_eq_append_getElem l2, ht]
          constructor
          · intro h; rw [h]
          · intro h; exact List.singleton_inj.1 (List.append_cancel_left h)
        have hne : L[k] ≠ L2[k] → L ≠ L2 := fun h e => by subst e; exact h rfl
        generalize L[k] = x at *
        generalize L2[k] = y at *
        have x0 : w.cell? ⟨b1, o1 + k * 3, none⟩ = some (.int .i64 x.off) := r1 0 _ rfl
        have x1 : w.cell? ⟨b1, o1 + k * 3 + 1, none⟩ = some (.int .i64 x.size) := r1 1 _ rfl
        have x2 : w.cell? ⟨b1, o1 + k * 3 + 2, none⟩ = some (.bool x.used) := r1 2 _ rfl
        have y0 : w.cell? ⟨b2, o2 + k * 3, none⟩ = some (.int .i64 y.off) := r2 0 _ rfl
        have y1 : w.cell? ⟨b2, o2 + k * 3 + 1, none⟩ = some (.int .i64 y.size) := r2 1 _ rfl
        have y2 : w.cell? ⟨b2, o2 + k * 3 + 2, none⟩ = some (.bool y.used) := r2 2 _ rfl
        have kd := (Keep.of_below (F := fun _ => False) hb).drew
        have X0 := Lib.hid (mid_keep kd x0 (fun h => h)); have X1 := Lib.hid (mid_keep kd x1 (fun h => h)); have X2 := Lib.hid (mid_keep kd x2 (fun h => h))
        have Y0 := Lib.hid (mid_keep kd y0 (fun h => h)); have Y1 := Lib.hid (mid_keep kd y1 (fun h => h)); have Y2 := Lib.hid (mid_keep kd y2 (fun h => h))
        have HB := Lib.hid hb; have HX := Lib.hid hx; have HNE := Lib.hid hne
        have p4 : k < L2.length := l2
        clear x0 x1 x2 y0 y1 y2 hx hne hb ht kd r1 r2 l1 l2 p4
        by_cases hxy : x = y
        · subst hxy
          have HT := Lib.hid (HX.out.1 rfl)
          go_wp2
          refine flowe_begin (F := fun _ => False) hmixed 9 rfl (by repeat (first | with_reducible refine ps_then ?_ | with_reducible refine ps_block ?_ | with_reducible exact ps_body | refine ps_then ?_ | refine ps_block ?_ | exact ps_body)) (fun hps => ?_)
          simp only [List.replicate]
          have kk := (Keep.refl (fun _ => False) (wr)).drew
          refine flowe_take 0 (v := ?_) (a' := ?_) hps rfl (by kernel_rfl) rfl ?_ ?_ ?_
          rotate_left 2
          · intro w' hk; go_simp; try rfl
          · simp only [Act.put, List.setIfInBounds_toArray, List.set_cons_succ, List.set_cons_zero]; try rfl
          refine flowe_take 1 (v := ?_) (a' := ?_) hps rfl (by kernel_rfl) rfl ?_ ?_ ?_
          rotate_left 2
          · intro w' hk; go_simp; try rfl
          · simp only [Act.put, List.setIfInBounds_toArray, List.set_cons_succ, List.set_cons_zero]; try rfl
          refine flowe_take 2 (v := ?_) (a' := ?_) hps rfl (by kernel_rfl) rfl ?_ ?_ ?_
          rotate_left 2
          · intro w' hk; go_simp; try rfl
          · simp only [Act.put, List.setIfInBounds_toArray, List.set_cons_succ, List.set_cons_zero]; try rfl
          refine flowe_take 3 (v := ?_) (a' := ?_) hps rfl (by kernel_rfl) rfl ?_ ?_ ?_
          rotate_left 2
          · intro w' hk; have c0 := mid_keep hk X0.out (fun h => h); have c1 := mid_keep hk X1.out (fun h => h); have c2 := mid_keep hk X2.out (fun h => h); go_simp; try rfl
          · simp only [Act.put, List.setIfInBounds_toArray, List.set_cons_succ, List.set_cons_zero]; try rfl
          refine flowe_take 4 (v := ?_) (a' := ?_) hps rfl (by kernel_rfl) rfl ?_ ?_ ?_
          rotate_left 2
          · intro w' hk; go_simp; try rfl
          · simp only [Act.put, List.setIfInBounds_toArray, List.set_cons_succ, List.set_cons_zero]; try rfl
          refine flowe_take 5 (v := ?_) (a' := ?_) hps rfl (by kernel_rfl) rfl ?_ ?_ ?_
          rotate_left 2
          · intro w' hk; go_simp; try rfl
          · simp only [Act.put, List.setIfInBounds_toArray, List.set_cons_succ, List.set_cons_zero]; try rfl
          refine flowe_take 6 (v := ?_) (a' := ?_) hps rfl (by kernel_rfl) rfl ?_ ?_ ?_
          rotate_left 2
          · intro w' hk; go_simp; try rfl
          · simp only [Act.put, List.setIfInBounds_toArray, List.set_cons_succ, List.set_cons_zero]; try rfl
          refine flowe_take 7 (v := ?_) (a' := ?_) hps rfl (by kernel_rfl) rfl ?_ ?_ ?_
          rotate_left 2
          · intro w' hk; have c0 := mid_keep hk Y0.out (fun h => h); have c1 := mid_keep hk Y1.out (fun h => h); have c2 := mid_keep hk Y2.out (fun h => h); go_simp; try rfl
          · simp only [Act.put, List.setIfInBounds_toArray, List.set_cons_succ, List.set_cons_zero]; try rfl
          refine flowe_take 8 (v := ?_) (a' := ?_) hps rfl (by kernel_rfl) rfl ?_ ?_ ?_
          rotate_left 2
          · intro w' hk; go_simp; try rfl
          · simp only [Act.put, List.setIfInBounds_toArray, List.set_cons_succ, List.set_cons_zero]; try rfl
          refine flowe_done hps (by kernel_rfl) ?_
          have HB2 := Lib.hid (HB.out.trans ((kk.below (Nat.le_refl _) fun _ _ h => h).mono HB.out.size))
          clear kk
          go_wp2
          exact ⟨⟨k + 1, hlt, by go_num, HT.out, HB2.out⟩, by simp [intOf]; omega⟩
        · have HXY := Lib.hid hxy
          by_cases d1 : x.off = y.off
          · rw [← d1] at Y0
            by_cases d2 : x.size = y.size
            · have d3 : y.used = !x.used := by
                have hu : x.used ≠ y.used := fun h => hxy (by cases x; cases y; simp only at d1 d2 h; subst d1; subst d2; subst h; rfl)
                revert hu; cases x.used <;> cases y.used <;> simp
              rw [← d2] at Y1
              rw [d3] at Y2
              clear d1 d2 d3 hxy
              go_wp2
              refine flowe_begin (F := fun _ => False) hmixed 9 rfl (by repeat (first | with_reducible refine ps_then ?_ | with_reducible refine ps_block ?_ | with_reducible exact ps_body | refine ps_then ?_ | refine ps_block ?_ | exact ps_body)) (fun hps => ?_)
              simp only [List.replicate]
              have kk := (Keep.refl (fun _ => False) (wr)).drew
              refine flowe_take 0 (v := ?_) (a' := ?_) hps rfl (by kernel_rfl) rfl ?_ ?_ ?_
              rotate_left 2
              · intro w' hk; go_simp; try rfl
              · simp only [Act.put, List.setIfInBounds_toArray, List.set_cons_succ, List.set_cons_zero]; try rfl
              refine flowe_take 1 (v := ?_) (a' := ?_) hps rfl (by kernel_rfl) rfl ?_ ?_ ?_
              rotate_left 2
              · intro w' hk; go_simp; try rfl
              · simp only [Act.put, List.setIfInBounds_toArray, List.set_cons_succ, List.set_cons_zero]; try rfl
              refine flowe_take 2 (v := ?_) (a' := ?_) hps rfl (by kernel_rfl) rfl ?_ ?_ ?_
              rotate_left 2
              · intro w' hk; go_simp; try rfl
              · simp only [Act.put, List.setIfInBounds_toArray, List.set_cons_succ, List.set_cons_zero]; try rfl
              refine flowe_take 3 (v := ?_) (a' := ?_) hps rfl (by kernel_rfl) rfl ?_ ?_ ?_
              rotate_left 2
              · intro w' hk; have c0 := mid_keep hk X0.out (fun h => h); have c1 := mid_keep hk X1.out (fun h => h); have c2 := mid_keep hk X2.out (fun h => h); go_simp; try rfl
              · simp only [Act.put, List.setIfInBounds_toArray, List.set_cons_succ, List.set_cons_zero]; try rfl
              refine flowe_take 4 (v := ?_) (a' := ?_) hps rfl (by kernel_rfl) rfl ?_ ?_ ?_
              rotate_left 2
              · intro w' hk; go_simp; try rfl
              · simp only [Act.put, List.setIfInBounds_toArray, List.set_cons_succ, List.set_cons_zero]; try rfl
              refine flowe_take 5 (v := ?_) (a' := ?_) hps rfl (by kernel_rfl) rfl ?_ ?_ ?_
              rotate_left 2
              · intro w' hk; go_simp; try rfl
              · simp only [Act.put, List.setIfInBounds_toArray, List.set_cons_succ, List.set_cons_zero]; try rfl
              refine flowe_take 6 (v := ?_) (a' := ?_) hps rfl (by kernel_rfl) rfl ?_ ?_ ?_
              rotate_left 2
              · intro w' hk; go_simp; try rfl
              · simp only [Act.put, List.setIfInBounds_toArray, List.set_cons_succ, List.set_cons_zero]; try rfl
              refine flowe_take 7 (v := ?_) (a' := ?_) hps rfl (by kernel_rfl) rfl ?_ ?_ ?_
              rotate_left 2
              · intro w' hk; have c0 := mid_keep hk Y0.out (fun h => h); have c1 := mid_keep hk Y1.out (fun h => h); have c2 := mid_keep hk Y2.out (fun h => h); go_simp; try rfl
              · simp only [Act.put, List.setIfInBounds_toArray, List.set_cons_succ, List.set_cons_zero]; try rfl
              refine flowe_take 8 (v := ?_) (a' := ?_) hps rfl (by kernel_rfl) rfl ?_ ?_ ?_
              rotate_left 2
              · intro w' hk; go_simp; try rfl
              · simp only [Act.put, List.setIfInBounds_toArray, List.set_cons_succ, List.set_cons_zero]; try rfl
              refine flowe_done hps (by kernel_rfl) ?_
              have HB2 := Lib.hid (HB.out.trans ((kk.below (Nat.le_refl _) fun _ _ h => h).mono HB.out.size))
              clear kk
              go_wp2
              go_ret
              exact ⟨by rw [HR.out, if_neg (HNE.out HXY.out)]; rfl, HB2.out⟩
            · have d4 : ¬ ((x.size : Int) = (y.size : Int)) := by omega
              clear d1 d2 hxy
              go_wp2
              refine flowe_begin (F := fun _ => False) hmixed 9 rfl (by repeat (first | with_reducible refine ps_then ?_ | with_reducible refine ps_block ?_ | with_reducible exact ps_body | refine ps_then ?_ | refine ps_block ?_ | exact ps_body)) (fun hps => ?_)
              simp only [List.replicate]
              have kk := (Keep.refl (fun _ => False) (wr)).drew
              refine flowe_take 0 (v := ?_) (a' := ?_) hps rfl (by kernel_rfl) rfl ?_ ?_ ?_
              rotate_left 2
              · intro w' hk; go_simp; try rfl
              · simp only [Act.put, List.setIfInBounds_toArray, List.set_cons_succ, List.set_cons_zero]; try rfl
              refine flowe_take 1 (v := ?_) (a' := ?_) hps rfl (by kernel_rfl) rfl ?_ ?_ ?_
              rotate_left 2
              · intro w' hk; go_simp; try rfl
              · simp only [Act.put, List.setIfInBounds_toArray, List.set_cons_succ, List.set_cons_zero]; try rfl
              refine flowe_take 2 (v := ?_) (a' := ?_) hps rfl (by kernel_rfl) rfl ?_ ?_ ?_
              rotate_left 2
              · intro w' hk; go_simp; try rfl
              · simp only [Act.put, List.setIfInBounds_toArray, List.set_cons_succ, List.set_cons_zero]; try rfl
              refine flowe_take 3 (v := ?_) (a' := ?_) hps rfl (by kernel_rfl) rfl ?_ ?_ ?_
              rotate_left 2
              · intro w' hk; have c0 := mid_keep hk X0.out (fun h => h); have c1 := mid_keep hk X1.out (fun h => h); have c2 := mid_keep hk X2.out (fun h => h); go_simp; try rfl
              · simp only [Act.put, List.setIfInBounds_toArray, List.set_cons_succ, List.set_cons_zero]; try rfl
              refine flowe_take 4 (v := ?_) (a' := ?_) hps rfl (by kernel_rfl) rfl ?_ ?_ ?_
              rotate_left 2
              · intro w' hk; go_simp; try rfl
              · simp only [Act.put, List.setIfInBounds_toArray, List.set_cons_succ, List.set_cons_zero]; try rfl
              refine flowe_take 5 (v := ?_) (a' := ?_) hps rfl (by kernel_rfl) rfl ?_ ?_ ?_
              rotate_left 2
              · intro w' hk; go_simp; try rfl
              · simp only [Act.put, List.setIfInBounds_toArray, List.set_cons_succ, List.set_cons_zero]; try rfl
              refine flowe_take 6 (v := ?_) (a' := ?_) hps rfl (by kernel_rfl) rfl ?_ ?_ ?_
              rotate_left 2
              · intro w' hk; go_simp; try rfl
              · simp only [Act.put, List.setIfInBounds_toArray, List.set_cons_succ, List.set_cons_zero]; try rfl
              refine flowe_take 7 (v := ?_) (a' := ?_) hps rfl (by kernel_rfl) rfl ?_ ?_ ?_
              rotate_left 2
              · intro w' hk; have c0 := mid_keep hk Y0.out (fun h => h); have c1 := mid_keep hk Y1.out (fun h => h); have c2 := mid_keep hk Y2.out (fun h => h); go_simp; try rfl
              · simp only [Act.put, List.setIfInBounds_toArray, List.set_cons_succ, List.set_cons_zero]; try rfl
              refine flowe_take 8 (v := ?_) (a' := ?_) hps rfl (by kernel_rfl) rfl ?_ ?_ ?_
              rotate_left 2
              · intro w' hk; go_simp; try rfl
              · simp only [Act.put, List.setIfInBounds_toArray, List.set_cons_succ, List.set_cons_zero]; try rfl
              refine flowe_done hps (by kernel_rfl) ?_
              have HB2 := Lib.hid (HB.out.trans ((kk.below (Nat.le_refl _) fun _ _ h => h).mono HB.out.size))
              clear kk
              go_wp2
              go_ret
              exact ⟨by rw [HR.out, if_neg (HNE.out HXY.out)]; rfl, HB2.out⟩
          · have d4 : ¬ ((x.off : Int) = (y.off : Int)) := by omega
            clear d1 hxy
            go_wp2
            refine flowe_begin (F := fun _ => False) hmixed 9 rfl (by repeat (first | with_reducible refine ps_then ?_ | with_reducible refine ps_block ?_ | with_reducible exact ps_body | refine ps_then ?_ | refine ps_block ?_ | exact ps_body)) (fun hps => ?_)
            simp only [List.replicate]
            have kk := (Keep.refl (fun _ => False) (wr)).drew
            refine flowe_take 0 (v := ?_) (a' := ?_) hps rfl (by kernel_rfl) rfl ?_ ?_ ?_
            rotate_left 2
            · intro w' hk; go_simp; try rfl
            · simp only [Act.put, List.setIfInBounds_toArray, List.set_cons_succ, List.set_cons_zero]; try rfl
            refine flowe_take 1 (v := ?_) (a' := ?_) hps rfl (by kernel_rfl) rfl ?_ ?_ ?_
            rotate_left 2
            · intro w' hk; go_simp; try rfl
            · simp only [Act.put, List.setIfInBounds_toArray, List.set_cons_succ, List.set_cons_zero]; try rfl
            refine flowe_take 2 (v := ?_) (a' := ?_) hps rfl (by kernel_rfl) rfl ?_ ?_ ?_
            rotate_left 2
            · intro w' hk; go_simp; try rfl
            · simp only [Act.put, List.setIfInBounds_toArray, List.set_cons_succ, List.set_cons_zero]; try rfl
            refine flowe_take 3 (v := ?_) (a' := ?_) hps rfl (by kernel_rfl) rfl ?_ ?_ ?_
            rotate_left 2
            · intro w' hk; have c0 := mid_keep hk X0.out (fun h => h); have c1 := mid_keep hk X1.out (fun h => h); have c2 := mid_keep hk X2.out (fun h => h); go_simp; try rfl
            · simp only [Act.put, List.setIfInBounds_toArray, List.set_cons_succ, List.set_cons_zero]; try rfl
            refine flowe_take 4 (v := ?_) (a' := ?_) hps rfl (by kernel_rfl) rfl ?_ ?_ ?_
            rotate_left 2
            · intro w' hk; go_simp; try rfl
            · simp only [Act.put, List.setIfInBounds_toArray, List.set_cons_succ, List.set_cons_zero]; try rfl
            refine flowe_take 5 (v := ?_) (a' := ?_) hps rfl (by kernel_rfl) rfl ?_ ?_ ?_
            rotate_left 2
            · intro w' hk; go_simp; try rfl
            · simp only [Act.put, List.setIfInBounds_toArray, List.set_cons_succ, List.set_cons_zero]; try rfl
            refine flowe_take 6 (v := ?_) (a' := ?_) hps rfl (by kernel_rfl) rfl ?_ ?_ ?_
            rotate_left 2
            · intro w' hk; go_simp; try rfl
            · simp only [Act.put, List.setIfInBounds_toArray, List.set_cons_succ, List.set_cons_zero]; try rfl
            refine flowe_take 7 (v := ?_) (a' := ?_) hps rfl (by kernel_rfl) rfl ?_ ?_ ?_
            rotate_left 2
            · intro w' hk; have c0 := mid_keep hk Y0.out (fun h => h); have c1 := mid_keep hk Y1.out (fun h => h); have c2 := mid_keep hk Y2.out (fun h => h); go_simp; try rfl
            · simp only [Act.put, List.setIfInBounds_toArray, List.set_cons_succ, List.set_cons_zero]; try rfl
            refine flowe_take 8 (v := ?_) (a' := ?_) hps rfl (by kernel_rfl) rfl ?_ ?_ ?_
            rotate_left 2
            · intro w' hk; go_simp; try rfl
            · simp only [Act.put, List.setIfInBounds_toArray, List.set_cons_succ, List.set_cons_zero]; try rfl
            refine flowe_done hps (by kernel_rfl) ?_
            have HB2 := Lib.hid (HB.out.trans ((kk.below (Nat.le_refl _) fun _ _ h => h).mono HB.out.size))
            clear kk
            go_wp2
            go_ret
            exact ⟨by rw [HR.out, if_neg (HNE.out HXY.out)]; rfl, HB2.out⟩
      · have hkN : k = N := by omega
        subst hkN
        have hLL : L = L2 := by
          rw [List.take_of_length_le (by rw [HN.out]; exact Nat.le_refl _), List.take_of_length_le (by rw [HN.out, HLL.out]; exact Nat.le_refl _)] at ht
          exact ht
        have HB := Lib.hid hb; have HE := Lib.hid hLL
        clear ht hb hLL
        go_wp2
        go_ret
        refine ⟨?_, HB.out⟩
        rw [HR.out, if_pos HE.out]
        rfl
  · have hne : L ≠ L2 := fun h => hl (by rw [h])
    rw [if_neg hne]
    have h3 : ¬ (L.length : Int) = (L2.length : Int) := by omega
    clear hl
    go_enter Try.func63, Try.ntmps63
    go_wp2
    go_ret
    exact ⟨rfl, Below.refl _ _⟩
end Go.Proofs.Ytjijniillehfoaa

/- Blocks that tile an arena's bytes, and the lists of its free ones: what the list operations do. No program. -/
namespace Go.Own
/-- Only words of T have turned. -/
structure Touch (T : Nat → Prop) (b b' : List UInt8) : Prop where
  len : b'.length = b.length
  same : ∀ o n, (∀ t, T t → o + n ≤ t ∨ t + 8 ≤ o) → (b'.drop o).take n = (b.drop o).take n
theorem Touch.refl (T : Nat → Prop) (b : List UInt8) : Touch T b b := ⟨rfl, fun _ _ _ => rfl⟩
theorem Touch.trans {T : Nat → Prop} {a b c : List UInt8} (h : Touch T a b) (k : Touch T b c) : Touch T a c :=
  ⟨k.len.trans h.len, fun o n ht => (k.same o n ht).trans (h.same o n ht)⟩
theorem Touch.mono {T T' : Nat → Prop} {a b : List UInt8} (h : Touch T a b) (ht : ∀ t, T t → T' t) : Touch T' a b :=
  ⟨h.len, fun o n hn => h.same o n fun t h => hn t (ht t h)⟩
theorem Touch.lay {T : Nat → Prop} (b : List UInt8) (o v : Nat) (h : o + 8 ≤ b.length) (ht : T o) : Touch T b (layAt b o v) :=
  ⟨layAt_length b o v h, fun p n hn => by
    unfold layAt
    exact lay_far (by rw [low_length]; exact h) p n (by rw [low_length]; exact hn o ht)⟩
theorem Touch.num {T : Nat → Prop} {b b' : List UInt8} (h : Touch T b b') (o : Nat) (ho : ∀ t, T t → o + 8 ≤ t ∨ t + 8 ≤ o) : numAt b' o = numAt b o := by
  unfold numAt; rw [h.len, h.same o 8 ho]
/-- Blocks, one behind the other, up to the end. -/
def Tile (b : List UInt8) : Nat → List Blk → Prop
  | o, [] => o = b.length
  | o, x :: r => blkAt b o = some x ∧ Tile b (o + x.size) r
theorem walkFrom_tile (b : List UInt8) : ∀ (bs : List Blk) (f o : Nat), o ≤ b.length → b.length ≤ o + f → (walkFrom b f o = some bs ↔ Tile b o bs)
  | bs, 0, o, h1, h2 => by
    obtain rfl : o = b.length := by omega
    unfold walkFrom
    rw [if_neg (by omega)]
    constructor
    · intro h
      simp only [Option.some.injEq] at h
      subst h; rfl
    · intro h
      cases bs with
      | nil => rfl
      | cons x r =>
        have := blkAt_some h.1
        omega
  | bs, f + 1, o, h1, h2 => by
    unfold walkFrom
    split
    · rename_i hlt
      cases hg : blkAt b o with
      | none =>
        constructor
        · intro h; cases h
        · intro h
          cases bs with
          | nil => have : o = b.length := h; omega
          | cons x r => rw [h.1] at hg; cases hg
      | some x =>
        have hx := blkAt_some hg
        cases bs with
        | nil =>
          constructor
          · intro h
            simp only [Option.map_eq_some_iff] at h
            obtain ⟨_, _, h⟩ := h
            cases h
          · intro h; have : o = b.length := h; omega
        | cons y r =>
          have ih := walkFrom_tile b r f (o + x.size) (by omega) (by omega)
          constructor
          · intro h
            simp only [Option.map_eq_some_iff, List.cons.injEq] at h
            obtain ⟨l, h1, rfl, rfl⟩ := h
            exact ⟨hg, ih.1 h1⟩
          · intro h
            have : x = y := by have := hg.symm.trans h.1; simpa using this
            subst this
            simp only [Option.map_eq_some_iff, List.cons.injEq]
            exact ⟨r, ih.2 h.2, trivial, rfl⟩
    · obtain rfl : o = b.length := by omega
      constructor
      · intro h
        simp only [Option.some.injEq] at h
        subst h; rfl
      · intro h
        cases bs with
        | nil => rfl
        | cons x r =>
          have := blkAt_some h.1
          omega
theorem walkB_tile (b : List UInt8) (bs : List Blk) : walkB b = some bs ↔ 184 ≤ b.length ∧ Tile b 184 bs := by
  unfold walkB
  split
  · constructor
    · intro h; cases h
    · intro h; omega
  · rw [walkFrom_tile b bs b.length 184 (by omega) (by omega)]
    exact ⟨fun h => ⟨by omega, h⟩, fun h => h.2⟩
theorem Tile.mem {b : List UInt8} {x : Blk} : ∀ {bs : List Blk} {o : Nat}, Tile b o bs → x ∈ bs → o ≤ x.off ∧ blkAt b x.off = some x ∧ x.off + x.size ≤ b.length
  | [], _, _, h => by cases h
  | y :: r, o, ht, h => by
    have hy := blkAt_some ht.1
    rcases List.mem_cons.1 h with rfl | h
    · rw [hy.1]; exact ⟨Nat.le_refl _, ht.1, by omega⟩
    · have := ht.2.mem h; exact ⟨by omega, this.2⟩
theorem Tile.apart {b : List UInt8} {x y : Blk} : ∀ {bs : List Blk} {o : Nat}, Tile b o bs → x ∈ bs → y ∈ bs → x = y ∨ x.off + x.size ≤ y.off ∨ y.off + y.size ≤ x.off
  | [], _, _, h, _ => by cases h
  | z :: r, o, ht, hx, hy => by
    have hz := blkAt_some ht.1
    rcases List.mem_cons.1 hx with e1 | h1 <;> rcases List.mem_cons.1 hy with e2 | h2
    · exact .inl (e1.trans e2.symm)
    · subst e1; have := ht.2.mem h2; exact .inr (.inl (by omega))
    · subst e2; have := ht.2.mem h1; exact .inr (.inr (by omega))
    · exact ht.2.apart h1 h2
/-- Blocks that are there, no two with a byte in common. -/
structure Good (b : List UInt8) (bs : List Blk) : Prop where
  mem : ∀ {x : Blk}, x ∈ bs → 184 ≤ x.off ∧ blkAt b x.off = some x ∧ x.off + x.size ≤ b.length
  apart : ∀ {x y : Blk}, x ∈ bs → y ∈ bs → x = y ∨ x.off + x.size ≤ y.off ∨ y.off + y.size ≤ x.off
theorem Tile.good {b : List UInt8} {bs : List Blk} (h : Tile b 184 bs) : Good b bs := ⟨fun hx => h.mem hx, fun hx hy => h.apart hx hy⟩
/-- Words of the header, and the two link words of free blocks. -/
def LinkW (bs : List Blk) (t : Nat) : Prop := t + 8 ≤ 184 ∨ ∃ x ∈ bs, x.used = false ∧ (t = x.off + 8 ∨ t = x.off + 16)
theorem blkAt_touch {T : Nat → Prop} {b b' : List UInt8} (h : Touch T b b') {o : Nat} {x : Blk} (hx : blkAt b o = some x) (ht : ∀ t, T t → (o + 8 ≤ t ∨ t + 8 ≤ o) ∧ (o + x.size ≤ t ∨ t + 8 ≤ o + x.size - 8)) : blkAt b' o = some x := by
  have hs := blkAt_some hx
  have e1 := h.num o fun t h => (ht t h).1
  have e2 := h.num (o + x.size - 8) fun t h => by have := (ht t h).2; omega
  have hsz : x.size = (tagS (numAt b o)).toNat := by omega
  rw [hsz] at e2
  unfold blkAt at hx ⊢
  rw [e1, h.len, e2]
  exact hx
theorem LinkW.off {b : List UInt8} {bs : List Blk} (h : Good b bs) {t : Nat} (ht : LinkW bs t) {x : Blk} (hx : x ∈ bs) : (x.off + 8 ≤ t ∨ t + 8 ≤ x.off) ∧ (x.off + x.size ≤ t ∨ t + 8 ≤ x.off + x.size - 8) := by
  have h1 := h.mem hx
  have h2 := blkAt_some h1.2.1
  rcases ht with ht | ⟨y, hy, _, ht⟩
  · omega
  · have h3 := h.mem hy
    have h4 := blkAt_some h3.2.1
    rcases h.apart hx hy with rfl | h5 | h5 <;> rcases ht with rfl | rfl <;> omega
theorem Tile.touch {b b' : List UInt8} {bs : List Blk} (h : Tile b 184 bs) (hl : 184 ≤ b.length) (ht : Touch (LinkW bs) b b') : Tile b' 184 bs := by
  have key : ∀ (r : List Blk) (o : Nat), Tile b o r → (∀ x ∈ r, x ∈ bs) → Tile b' o r := by
    intro r
    induction r with
    | nil => intro o h _; exact h.trans ht.len.symm
    | cons x r ih =>
      intro o h1 h2
      have hx := (blkAt_some h1.1).1
      refine ⟨blkAt_touch ht h1.1 fun t h3 => ?_, ih _ h1.2 fun y hy => h2 y (List.mem_cons_of_mem _ hy)⟩
      have := h3.off h.good (h2 x (List.mem_cons_self ..))
      rw [hx] at this; exact this
  exact key bs 184 h fun x hx => hx
theorem Good.touch {b b' : List UInt8} {bs : List Blk} (h : Good b bs) (ht : Touch (LinkW bs) b b') : Good b' bs :=
  ⟨fun {x} hx => by
    have h1 := h.mem hx
    exact ⟨h1.1, blkAt_touch ht h1.2.1 fun t h3 => h3.off h hx, by rw [ht.len]; exact h1.2.2⟩, fun hx hy => h.apart hx hy⟩
/-- From one's predecessor and one's place through a list to the next place. -/
def Seg (b : List UInt8) : Nat → Nat → List Nat → Nat → Nat → Prop
  | last, at_, [], last', at' => last' = last ∧ at' = at_
  | last, at_, o :: r, last', at' => at_ = o ∧ numAt b (o + 16) = last ∧ Seg b o (numAt b (o + 8)) r last' at'
theorem Seg.append {b : List UInt8} : ∀ {l1 l2 : List Nat} {p q p' q' : Nat}, Seg b p q (l1 ++ l2) p' q' ↔ ∃ m k, Seg b p q l1 m k ∧ Seg b m k l2 p' q'
  | [], l2, p, q, p', q' => by
    constructor
    · intro h; exact ⟨p, q, ⟨rfl, rfl⟩, h⟩
    · rintro ⟨m, k, ⟨rfl, rfl⟩, h⟩; exact h
  | o :: l1, l2, p, q, p', q' => by
    simp only [List.cons_append, Seg, Seg.append (l1 := l1)]
    constructor
    · rintro ⟨h1, h2, m, k, h3, h4⟩; exact ⟨m, k, ⟨h1, h2, h3⟩, h4⟩
    · rintro ⟨m, k, ⟨h1, h2, h3⟩, h4⟩; exact ⟨h1, h2, m, k, h3, h4⟩
theorem Seg.frame {b b' : List UInt8} : ∀ {l : List Nat} {p q p' q' : Nat}, (∀ o ∈ l, numAt b' (o + 8) = numAt b (o + 8) ∧ numAt b' (o + 16) = numAt b (o + 16)) → Seg b p q l p' q' → Seg b' p q l p' q'
  | [], _, _, _, _, _, h => h
  | o :: l, p, q, p', q', hf, h => by
    have := hf o (List.mem_cons_self ..)
    refine ⟨h.1, this.2.trans h.2.1, ?_⟩
    rw [this.1]
    exact h.2.2.frame fun o ho => hf o (List.mem_cons_of_mem _ ho)
theorem Seg.last {b : List UInt8} : ∀ {l : List Nat} {p q p' q' : Nat}, Seg b p q l p' q' → p' = l.getLastD p
  | [], _, _, _, _, h => h.1
  | o :: l, p, q, p', q', h => by
    rw [h.2.2.last]
    cases l <;> rfl
theorem Seg.head {b : List UInt8} {l : List Nat} {p q p' q' : Nat} (h : Seg b p q l p' q') : q = l.headD q' := by
  cases l with
  | nil => exact h.2.symm
  | cons o l => exact h.1
end Go.Own

/- One bit of a number, set or cleared. No program. -/
namespace Go.Own
theorem bitAt_test (w c : Nat) : bitAt w c = w.testBit c := by unfold bitAt; rw [Nat.testBit_eq_decide_div_mod_eq]
theorem bitAt_set (w c d : Nat) (v : Bool) : bitAt (setBit w c v) d = if d = c then v else bitAt w d := by
  unfold setBit
  split
  · rename_i h; split
    · rename_i e; subst e; exact h
    · rfl
  · rename_i h
    rw [bitAt_test] at h
    rw [bitAt_test, bitAt_test, Nat.testBit_xor, Nat.testBit_two_pow]
    split
    · rename_i e; subst e
      cases hb : w.testBit d <;> cases v <;> simp_all
    · rename_i e
      have : decide (c = d) = false := decide_eq_false fun h => e h.symm
      rw [this]; simp
theorem setBit_lt {w c : Nat} {v : Bool} (h : w < 4194304) (hc : c < 22) : setBit w c v < 4194304 := by
  unfold setBit
  split
  · exact h
  · exact Nat.xor_lt_two_pow (n := 22) h (Nat.pow_lt_pow_right (by decide) hc)
theorem setBit_lt64 {w c : Nat} {v : Bool} (h : w < 18446744073709551616) (hc : c < 22) : setBit w c v < 18446744073709551616 := by
  unfold setBit
  split
  · exact h
  · exact Nat.xor_lt_two_pow (n := 64) h (Nat.pow_lt_pow_right (by decide) (by omega))
theorem or_bit (w c : Nat) : w ||| 2 ^ c = setBit w c true := by
  apply Nat.eq_of_testBit_eq
  intro d
  rw [← bitAt_test (setBit w c true), bitAt_set, bitAt_test, Nat.testBit_or, Nat.testBit_two_pow]
  split
  · rename_i e; subst e; simp
  · rename_i e
    have : decide (c = d) = false := decide_eq_false fun h => e h.symm
    rw [this]; simp
theorem andNot_bit (w c : Nat) (h : w < 18446744073709551616) (hc : c < 22) : w &&& (18446744073709551615 - 2 ^ c) = setBit w c false := by
  apply Nat.eq_of_testBit_eq
  intro d
  have e : 18446744073709551615 - 2 ^ c = 2 ^ 64 - (2 ^ c + 1) := by
    have : (2 : Nat) ^ 64 = 18446744073709551616 := by decide
    omega
  rw [← bitAt_test (setBit w c false), bitAt_set, bitAt_test, Nat.testBit_and, e, Nat.testBit_two_pow_sub_succ (Nat.pow_lt_pow_right (by decide) (by omega)), Nat.testBit_two_pow]
  by_cases hd : d < 64
  · split
    · rename_i e; subst e; simp
    · rename_i e
      have : decide (c = d) = false := decide_eq_false fun h => e h.symm
      rw [this]; simp [hd]
  · have : w.testBit d = false := Nat.testBit_lt_two_pow (Nat.lt_of_lt_of_le h (by
      have : (18446744073709551616 : Nat) = 2 ^ 64 := by decide
      rw [this]; exact Nat.pow_le_pow_right (by decide) (by omega)))
    rw [this]; simp
theorem xor_low (w c : Nat) : w ^^^ 2 ^ c = if w.testBit c then w - 2 ^ c else w + 2 ^ c := by
  have hp : 0 < 2 ^ c := Nat.two_pow_pos c
  have hw : w = 2 ^ (c + 1) * (w / 2 ^ (c + 1)) + w % 2 ^ (c + 1) := (Nat.div_add_mod _ _).symm
  have hlt : w % 2 ^ (c + 1) < 2 ^ (c + 1) := Nat.mod_lt _ (Nat.two_pow_pos _)
  have h2 : (2 : Nat) ^ (c + 1) = 2 * 2 ^ c := by rw [Nat.pow_succ]; omega
  have hb : w.testBit c = decide (2 ^ c ≤ w % 2 ^ (c + 1)) := by
    rw [Nat.testBit_eq_decide_div_mod_eq]
    have : w % 2 ^ (c + 1) / 2 ^ c = w / 2 ^ c % 2 := by rw [Nat.pow_succ, Nat.mod_mul_right_div_self]
    rw [← this]
    congr 1
    apply propext
    constructor
    · intro h
      rcases Nat.lt_or_ge (w % 2 ^ (c + 1)) (2 ^ c) with hl | hl
      · rw [Nat.div_eq_of_lt hl] at h; cases h
      · exact hl
    · intro h
      have h1 : w % 2 ^ (c + 1) / 2 ^ c < 2 := (Nat.div_lt_iff_lt_mul hp).2 (by omega)
      have h3 : 1 ≤ w % 2 ^ (c + 1) / 2 ^ c := (Nat.le_div_iff_mul_le hp).2 (by omega)
      omega
  have key : ∀ (a r s : Nat), r < 2 ^ (c + 1) → s < 2 ^ (c + 1) → r ^^^ 2 ^ c = s → (2 ^ (c + 1) * a + r) ^^^ 2 ^ c = 2 ^ (c + 1) * a + s := by
    intro a r s hr hs he
    apply Nat.eq_of_testBit_eq
    intro d
    rw [Nat.testBit_xor, Nat.testBit_two_pow_mul_add _ hr, Nat.testBit_two_pow_mul_add _ hs, Nat.testBit_two_pow]
    split
    · rw [← he, Nat.testBit_xor, Nat.testBit_two_pow]
    · have : decide (c = d) = false := decide_eq_false (by omega)
      rw [this]; simp
  have low : ∀ r, r < 2 ^ c → r ^^^ 2 ^ c = r + 2 ^ c := by
    intro r hr
    apply Nat.eq_of_testBit_eq
    intro d
    rw [Nat.add_comm, Nat.testBit_xor, Nat.testBit_two_pow]
    rcases Nat.lt_trichotomy d c with hd | hd | hd
    · rw [Nat.testBit_two_pow_add_gt hd]
      have : decide (c = d) = false := decide_eq_false (by omega)
      rw [this]; simp
    · subst hd
      rw [Nat.testBit_two_pow_add_eq, Nat.testBit_lt_two_pow hr]; simp
    · have h1 : r.testBit d = false := Nat.testBit_lt_two_pow (Nat.lt_of_lt_of_le hr (Nat.pow_le_pow_right (by decide) (by omega)))
      have h3 : (2 ^ c + r).testBit d = false := Nat.testBit_lt_two_pow (Nat.lt_of_lt_of_le (by omega : 2 ^ c + r < 2 ^ (c + 1)) (Nat.pow_le_pow_right (by decide) (by omega)))
      have : decide (c = d) = false := decide_eq_false (by omega)
      rw [h1, h3, this]; rfl
  rw [hb]
  by_cases hc : 2 ^ c ≤ w % 2 ^ (c + 1)
  · rw [decide_eq_true hc, if_pos rfl]
    have h4 : w % 2 ^ (c + 1) ^^^ 2 ^ c = w % 2 ^ (c + 1) - 2 ^ c := by
      have h5 := low (w % 2 ^ (c + 1) - 2 ^ c) (by omega)
      rw [show w % 2 ^ (c + 1) - 2 ^ c + 2 ^ c = w % 2 ^ (c + 1) by omega] at h5
      have h6 := congrArg (· ^^^ 2 ^ c) h5
      simp only [Nat.xor_assoc, Nat.xor_self, Nat.xor_zero] at h6
      exact h6.symm
    have := key (w / 2 ^ (c + 1)) _ _ hlt (by omega) h4
    rw [← hw] at this
    omega
  · rw [decide_eq_false hc]
    have := key (w / 2 ^ (c + 1)) _ (w % 2 ^ (c + 1) + 2 ^ c) hlt (by omega) (low _ (by omega))
    rw [← hw] at this
    simp only [Bool.false_eq_true, if_false]
    omega
/-- The reference's way. -/
theorem setBit_arith (w c : Nat) (v : Bool) : setBit w c v = if bitAt w c = v then w else if v then w + 2 ^ c else w - 2 ^ c := by
  unfold setBit
  split
  · rfl
  · rename_i h
    rw [xor_low, ← bitAt_test]
    cases hb : bitAt w c <;> cases v <;> simp_all
end Go.Own

/- The lists of free blocks: taken out, put in, told. No program. -/
namespace Go.Own
structure Lists (b : List UInt8) (bs : List Blk) (ls : Nat → List Nat) : Prop where
  w0 : numAt b 0 < 4194304
  bit : ∀ c, c < 22 → bitAt (numAt b 0) c = decide (ls c ≠ [])
  seg : ∀ c, c < 22 → ∃ z, Seg b 0 (numAt b (headO c)) (ls c) z 0
  mem : ∀ c, c < 22 → ∀ o ∈ ls c, ∃ x ∈ bs, x.off = o ∧ x.used = false ∧ cls x.size = c
  nodup : ∀ c, c < 22 → (ls c).Nodup
section
variable {b : List UInt8} {bs : List Blk} {ls : Nat → List Nat}
theorem Lists.place (h : Lists b bs ls) (ht : Good b bs) {c o : Nat} (hc : c < 22) (ho : o ∈ ls c) : 184 ≤ o ∧ o % 16 = 8 ∧ o + 32 ≤ b.length ∧ memberB b o c = true := by
  obtain ⟨x, hx, rfl, hu, hcl⟩ := h.mem c hc o ho
  have h1 := ht.mem hx
  have h2 := blkAt_some h1.2.1
  refine ⟨h1.1, h2.2.2.1, by omega, ?_⟩
  unfold memberB
  rw [h1.2.1]
  simp [hu, hcl]
theorem Lists.sep (h : Lists b bs ls) (ht : Good b bs) {c d o : Nat} (hc : c < 22) (hd : d < 22) (h1 : o ∈ ls c) (h2 : o ∈ ls d) : c = d := by
  obtain ⟨x, hx, e1, _, h3⟩ := h.mem c hc o h1
  obtain ⟨y, hy, e2, _, h4⟩ := h.mem d hd o h2
  have g1 := (ht.mem hx).2.1
  have g2 := (ht.mem hy).2.1
  rw [e1] at g1
  rw [e2, g1] at g2
  simp only [Option.some.injEq] at g2
  subst g2
  omega
theorem nodup_len : ∀ (n : Nat) (l : List Nat), l.Nodup → (∀ x ∈ l, x < n) → l.length ≤ n
  | 0, l, _, h => by
    cases l with
    | nil => exact Nat.le_refl _
    | cons a l => have := h a (List.mem_cons_self ..); omega
  | n + 1, l, hn, h => by
    by_cases hm : n ∈ l
    · have := nodup_len n (l.erase n) (hn.erase n) fun x hx => by
        have h1 := h x (List.mem_of_mem_erase hx)
        have h2 : x ≠ n := fun e => by subst e; exact (hn.not_mem_erase) hx
        omega
      rw [List.length_erase_of_mem hm] at this
      omega
    · have := nodup_len n l hn fun x hx => by
        have h1 := h x hx
        have h2 : x ≠ n := fun e => by subst e; exact hm hx
        omega
      omega
theorem Lists.short (h : Lists b bs ls) (ht : Good b bs) (hb : b.length ≤ 16384) {c : Nat} (hc : c < 22) : (ls c).length ≤ 1024 := by
  have hn : ((ls c).map (· / 16)).Nodup := by
    have h1 := h.nodup c hc
    refine List.Pairwise.map _ (fun a b h => h) ?_
    refine List.Pairwise.imp_of_mem (R := fun a b => a ≠ b) (fun {x y} hx hy hne => ?_) h1
    have := h.place ht hc hx
    have := h.place ht hc hy
    omega
  have := nodup_len 1024 _ hn fun x hx => by
    obtain ⟨o, ho, rfl⟩ := List.mem_map.1 hx
    have := h.place ht hc ho
    omega
  simpa using this
theorem allFrom_seg {c : Nat} : ∀ (l : List Nat) (f at_ last z : Nat), Seg b last at_ l z 0 → (∀ o ∈ l, o ≠ 0 ∧ memberB b o c = true) → l.length ≤ f → allFrom b c f at_ last = some l
  | [], f, at_, last, z, h, _, _ => by
    have : at_ = 0 := h.2.symm
    subst this
    cases f <;> rfl
  | o :: l, 0, at_, last, z, h, _, hl => by simp at hl
  | o :: l, f + 1, at_, last, z, h, hm, hl => by
    obtain ⟨rfl, h2, h3⟩ := h
    have h4 := hm at_ (List.mem_cons_self ..)
    unfold allFrom
    rw [if_neg h4.1, if_neg (by rw [h4.2, h2]; simp), allFrom_seg l f _ _ z h3 (fun o ho => hm o (List.mem_cons_of_mem _ ho)) (by simpa using hl)]
    rfl
theorem Lists.head (h : Lists b bs ls) {c : Nat} (hc : c < 22) : numAt b (headO c) = (ls c).headD 0 := by
  obtain ⟨z, hz⟩ := h.seg c hc
  exact hz.head
theorem Lists.headNe (h : Lists b bs ls) (ht : Good b bs) {c : Nat} (hc : c < 22) : numAt b (headO c) ≠ 0 ↔ ls c ≠ [] := by
  rw [h.head hc]
  cases hl : ls c with
  | nil => simp
  | cons o l =>
    have := h.place ht hc (o := o) (by rw [hl]; exact List.mem_cons_self ..)
    simp; omega
theorem Lists.all (h : Lists b bs ls) (ht : Good b bs) (hl : 184 ≤ b.length) (hb : b.length ≤ 16384) {c : Nat} (hc : c < 22) : allB b c = some (ls c) := by
  obtain ⟨z, hz⟩ := h.seg c hc
  have h1 := h.headNe ht hc
  unfold allB
  rw [if_neg (by omega), if_neg (by rw [h.bit c hc]; simp [h1]), allFrom_seg (ls c) 1024 _ 0 z hz (fun o ho => by have := h.place ht hc ho; exact ⟨by omega, this.2.2.2⟩) (h.short ht hb hc)]
end
theorem markB_num {b : List UInt8} {c : Nat} (hb : 8 ≤ b.length) (hc : c < 22) (q : Nat) (hq : q % 8 = 0) : numAt (markB b c) q = if q = 0 then setBit (numAt b 0) c (decide (numAt b (headO c) ≠ 0)) else numAt b q := by
  unfold markB
  rw [numAt_lay b 0 q _ (by omega) (setBit_lt64 (numAt_lt b 0) hc) (by omega)]
theorem markB_touch {T : Nat → Prop} {b : List UInt8} {c : Nat} (hb : 8 ≤ b.length) (ht : T 0) : Touch T b (markB b c) := Touch.lay b 0 _ (by omega) ht
theorem Seg.lastNext {b : List UInt8} : ∀ {l : List Nat} {p q p' q' : Nat}, Seg b p q l p' q' → l ≠ [] → numAt b (p' + 8) = q'
  | [], _, _, _, _, _, h => absurd rfl h
  | [o], p, q, p', q', h, _ => by
    obtain ⟨_, _, h1, h2⟩ := h
    rw [h1, h2]
  | o :: o2 :: r, p, q, p', q', h, _ => Seg.lastNext h.2.2 (by simp)
theorem Seg.lastMem {b : List UInt8} : ∀ {l : List Nat} {p q p' q' : Nat}, Seg b p q l p' q' → l ≠ [] → p' ∈ l
  | [], _, _, _, _, _, h => absurd rfl h
  | [o], p, q, p', q', h, _ => by rw [h.2.2.1]; exact List.mem_cons_self ..
  | o :: o2 :: r, p, q, p', q', h, _ => List.mem_cons_of_mem _ (Seg.lastMem h.2.2 (by simp))
/-- The last one's next place is another one. -/
theorem Seg.retail {b b' : List UInt8} {q'' : Nat} : ∀ {l : List Nat} {p q p' q' : Nat}, Seg b p q l p' q' → l ≠ [] → l.Nodup → (∀ o ∈ l, numAt b' (o + 16) = numAt b (o + 16)) → (∀ o ∈ l, o ≠ p' → numAt b' (o + 8) = numAt b (o + 8)) → numAt b' (p' + 8) = q'' → Seg b' p q l p' q''
  | [], _, _, _, _, _, h, _, _, _, _ => absurd rfl h
  | [o], p, q, p', q', h, _, _, h1, h2, h3 => by
    obtain ⟨e1, e2, e3, e4⟩ := h
    subst e3
    exact ⟨e1, (h1 _ (List.mem_cons_self ..)).trans e2, rfl, h3.symm⟩
  | o :: o2 :: r, p, q, p', q', h, _, hn, h1, h2, h3 => by
    have hm := Seg.lastMem h.2.2 (by simp)
    have hne : o ≠ p' := fun e => (List.nodup_cons.1 hn).1 (e ▸ hm)
    refine ⟨h.1, (h1 o (List.mem_cons_self ..)).trans h.2.1, ?_⟩
    rw [h2 o (List.mem_cons_self ..) hne]
    exact Seg.retail h.2.2 (by simp) (List.nodup_cons.1 hn).2 (fun x hx => h1 x (List.mem_cons_of_mem _ hx)) (fun x hx => h2 x (List.mem_cons_of_mem _ hx)) h3
/-- What stands ahead of the first one is another one. -/
theorem Seg.rehead {b b' : List UInt8} {p2 : Nat} {l : List Nat} {p q z : Nat} (h : Seg b p q l z 0) (hn : l.Nodup) (h1 : ∀ o ∈ l, numAt b' (o + 8) = numAt b (o + 8)) (h2 : ∀ o ∈ l, o ≠ q → numAt b' (o + 16) = numAt b (o + 16)) (h3 : l ≠ [] → numAt b' (q + 16) = p2) : ∃ z', Seg b' p2 q l z' 0 := by
  cases l with
  | nil => exact ⟨p2, rfl, h.2⟩
  | cons o r =>
    obtain ⟨rfl, e2, e3⟩ := h
    have hr := (List.nodup_cons.1 hn).1
    refine ⟨z, rfl, h3 (by simp), ?_⟩
    rw [h1 q (List.mem_cons_self ..)]
    exact e3.frame fun x hx => ⟨h1 x (List.mem_cons_of_mem _ hx), h2 x (List.mem_cons_of_mem _ hx) fun e => hr (e ▸ hx)⟩
/-- A block is taken out of its list. -/
theorem takeB_lists {b : List UInt8} {bs : List Blk} {ls : Nat → List Nat} (h : Lists b bs ls) (ht : Good b bs) (hl : 184 ≤ b.length) {c o : Nat} (hc : c < 22) (ho : o ∈ ls c) :
    ∃ b', takeB b o = some b' ∧ Touch (LinkW bs) b b' ∧ Lists b' bs (fun d => if d = c then (ls c).filter (· ≠ o) else ls d) := by
  obtain ⟨x, hx, hxo, hxu, hxc⟩ := h.mem c hc o ho
  have hg := (ht.mem hx).2.1
  rw [hxo] at hg
  have hfree : freeB b o = some c := by unfold freeB; rw [hg]; simp [hxu, hxc]
  have hpl := fun {d q : Nat} (hd : d < 22) (hq : q ∈ ls d) => h.place ht hd hq
  have hlw := fun {d q : Nat} (hd : d < 22) (hq : q ∈ ls d) => h.mem d hd q hq
  have hsep := fun {d q : Nat} (hd : d < 22) (hq : q ∈ ls d) (hq' : q ∈ ls c) => h.sep ht hd hc hq hq'
  obtain ⟨z, hz⟩ := h.seg c hc
  have hnd := h.nodup c hc
  obtain ⟨l1, l2, hsplit⟩ := List.append_of_mem ho
  have hm1 : ∀ q ∈ l1, q ∈ ls c := fun q hq => by rw [hsplit]; exact List.mem_append_left _ hq
  have hm2 : ∀ q ∈ l2, q ∈ ls c := fun q hq => by rw [hsplit]; exact List.mem_append_right _ (List.mem_cons_of_mem _ hq)
  have hnd0 := hnd
  rw [hsplit] at hz hnd
  obtain ⟨m, k, s1, s2, s3, s4⟩ := Seg.append.1 hz
  subst s2
  have hnd1 : ∀ q ∈ l1, q ≠ k ∧ q ∉ l2 := fun q hq => by
    have := (List.nodup_append.1 hnd).2.2 q hq
    exact ⟨this k (List.mem_cons_self ..), fun h2 => this q (List.mem_cons_of_mem _ h2) rfl⟩
  have hnd2 : k ∉ l2 ∧ l2.Nodup := List.nodup_cons.1 (List.nodup_append.1 hnd).2.1
  have hnd3 : l1.Nodup := (List.nodup_append.1 hnd).1
  have hfil : (ls c).filter (· ≠ k) = l1 ++ l2 := by
    rw [hsplit, List.filter_append, List.filter_cons]
    have e1 : l1.filter (· ≠ k) = l1 := List.filter_eq_self.2 fun q hq => by simpa using (hnd1 q hq).1
    have e2 : l2.filter (· ≠ k) = l2 := List.filter_eq_self.2 fun q hq => by
      have : q ≠ k := fun e => hnd2.1 (e ▸ hq)
      simpa using this
    rw [e1, e2]; simp
  have hko := hpl hc ho
  have hm0 : l1 = [] → m = 0 ∧ numAt b (headO c) = k := fun e => by subst e; exact ⟨s1.1, s1.2.symm⟩
  have hmm : l1 ≠ [] → m ∈ l1 ∧ numAt b (m + 8) = k := fun e => ⟨s1.lastMem e, s1.lastNext e⟩
  have hmz : m = 0 ↔ l1 = [] := ⟨fun e => by
    rcases Classical.em (l1 = []) with h1 | h1
    · exact h1
    · have := hpl hc (hm1 _ (hmm h1).1); omega, fun e => (hm0 e).1⟩
  obtain ⟨n, hn⟩ : ∃ n, numAt b (k + 8) = n := ⟨_, rfl⟩
  rw [hn] at s4
  have hn0 : l2 = [] → n = 0 := fun e => by subst e; exact s4.2.symm
  have hnm : l2 ≠ [] → n ∈ l2 ∧ numAt b (n + 16) = k := fun e => by
    cases l2 with
    | nil => exact absurd rfl e
    | cons a r => obtain ⟨rfl, e2, _⟩ := s4; exact ⟨List.mem_cons_self .., e2⟩
  have hnz : n = 0 ↔ l2 = [] := ⟨fun e => by
    rcases Classical.em (l2 = []) with h1 | h1
    · exact h1
    · have := hpl hc (hm2 _ (hnm h1).1); omega, hn0⟩
  have hmb : m ≠ 0 → m ∈ l1 ∧ numAt b (m + 8) = k ∧ 184 ≤ m ∧ m % 16 = 8 ∧ m + 32 ≤ b.length ∧ memberB b m c = true := fun e => by
    have h1 := hmm fun h => e (hmz.2 h)
    have h2 := hpl hc (hm1 _ h1.1)
    exact ⟨h1.1, h1.2, h2⟩
  have hnb : n ≠ 0 → n ∈ l2 ∧ numAt b (n + 16) = k ∧ 184 ≤ n ∧ n % 16 = 8 ∧ n + 32 ≤ b.length ∧ memberB b n c = true := fun e => by
    have h1 := hnm fun h => e (hnz.2 h)
    have h2 := hpl hc (hm2 _ h1.1)
    exact ⟨h1.1, h1.2, h2⟩
  have hmk : m < 18446744073709551616 := by have := numAt_lt b (k + 16); omega
  have hnk : n < 18446744073709551616 := by have := numAt_lt b (k + 8); omega
  have hho : headO c + 8 ≤ 184 ∧ headO c % 8 = 0 ∧ 0 < headO c := by unfold headO; omega
  have hcond : ¬ ((m = 0 ∧ numAt b (headO c) ≠ k) ∨ (m ≠ 0 ∧ (memberB b m c = false ∨ numAt b (m + 8) ≠ k)) ∨ (n ≠ 0 ∧ (memberB b n c = false ∨ numAt b (n + 16) ≠ k))) := by
    rintro (⟨e1, e2⟩ | ⟨e1, e2⟩ | ⟨e1, e2⟩)
    · exact e2 (hm0 (hmz.1 e1)).2
    · obtain ⟨_, a1, _, _, _, a2⟩ := hmb e1
      rcases e2 with e2 | e2
      · rw [a2] at e2; cases e2
      · exact e2 a1
    · obtain ⟨_, a1, _, _, _, a2⟩ := hnb e1
      rcases e2 with e2 | e2
      · rw [a2] at e2; cases e2
      · exact e2 a1
  obtain ⟨b1, hb1⟩ : ∃ b1, (if m = 0 then layAt b (headO c) n else layAt b (m + 8) n) = b1 := ⟨_, rfl⟩
  obtain ⟨b2, hb2⟩ : ∃ b2, (if n = 0 then b1 else layAt b1 (n + 16) m) = b2 := ⟨_, rfl⟩
  have htake : takeB b k = some (markB b2 c) := by
    unfold takeB
    rw [hfree]
    simp only
    rw [s3, hn, if_neg hcond, hb1, hb2]
  have lw0 : ∀ t, t + 8 ≤ 184 → LinkW bs t := fun t h => .inl h
  have lwc : ∀ q ∈ ls c, LinkW bs (q + 8) ∧ LinkW bs (q + 16) := fun q hq => by
    obtain ⟨y, hy, e1, e2, _⟩ := hlw hc hq
    exact ⟨.inr ⟨y, hy, e2, .inl (by rw [e1])⟩, .inr ⟨y, hy, e2, .inr (by rw [e1])⟩⟩
  have t1 : Touch (LinkW bs) b b1 := by
    rw [← hb1]
    split
    · exact Touch.lay b _ _ (by omega) (lw0 _ hho.1)
    · rename_i e; have := hmb e; exact Touch.lay b _ _ (by omega) (lwc m (hm1 _ this.1)).1
  have t2 : Touch (LinkW bs) b1 b2 := by
    rw [← hb2]
    split
    · exact Touch.refl _ _
    · rename_i e; have := hnb e; exact Touch.lay b1 _ _ (by rw [t1.len]; omega) (lwc n (hm2 _ this.1)).2
  have hb2l : b2.length = b.length := t2.len.trans t1.len
  have t3 : Touch (LinkW bs) b2 (markB b2 c) := markB_touch (by omega) (lw0 0 (by omega))
  have f1 : ∀ q, q % 8 = 0 → numAt b1 q = if (m = 0 ∧ q = headO c) ∨ (m ≠ 0 ∧ q = m + 8) then n else numAt b q := fun q hq => by
    rw [← hb1]
    by_cases e : m = 0
    · rw [if_pos e, numAt_lay b _ q n (by omega) hnk (by omega)]
      by_cases e2 : q = headO c <;> simp [e, e2]
    · have := hmb e
      rw [if_neg e, numAt_lay b _ q n (by omega) hnk (by omega)]
      by_cases e2 : q = m + 8 <;> simp [e, e2]
  have f2 : ∀ q, q % 8 = 0 → numAt b2 q = if n ≠ 0 ∧ q = n + 16 then m else numAt b1 q := fun q hq => by
    rw [← hb2]
    by_cases e : n = 0
    · rw [if_pos e]; simp [e]
    · have := hnb e
      rw [if_neg e, numAt_lay b1 _ q m (by rw [t1.len]; omega) hmk (by omega)]
      by_cases e2 : q = n + 16 <;> simp [e, e2]
  have f3 := fun q hq => markB_num (b := b2) (c := c) (by omega) hc q hq
  have g0 : numAt b2 0 = numAt b 0 := by
    rw [f2 0 rfl, if_neg (by omega), f1 0 rfl, if_neg (by omega)]
  have gh : ∀ d, d < 22 → d ≠ c → numAt (markB b2 c) (headO d) = numAt b (headO d) := fun d hd hne => by
    have e1 : headO d ≠ headO c := by unfold headO; omega
    have e2 : headO d + 8 ≤ 184 ∧ 0 < headO d ∧ headO d % 8 = 0 := by unfold headO; omega
    rw [f3 _ e2.2.2, if_neg (by omega), f2 _ e2.2.2, if_neg (fun h => by have := hnb h.1; omega), f1 _ e2.2.2, if_neg (by rintro (h | h); exact e1 h.2; have := hmb h.1; omega)]
  have ghc : numAt b2 (headO c) = if m = 0 then n else numAt b (headO c) := by
    rw [f2 _ hho.2.1, if_neg (fun h => by have := hnb h.1; omega), f1 _ hho.2.1]
    by_cases e : m = 0
    · simp [e]
    · rw [if_neg (by rintro (h | h); exact e h.1; have := hmb h.1; omega), if_neg e]
  have g8 : ∀ q, 184 ≤ q → q % 16 = 8 → numAt (markB b2 c) (q + 8) = if m ≠ 0 ∧ q = m then n else numAt b (q + 8) := fun q h1 h2 => by
    rw [f3 _ (by omega), if_neg (by omega), f2 _ (by omega), if_neg (fun h => by have := hnb h.1; omega), f1 _ (by omega)]
    by_cases e : m ≠ 0 ∧ q = m
    · rw [if_pos (.inr ⟨e.1, by omega⟩), if_pos e]
    · rw [if_neg (by rintro (h | h); omega; exact e ⟨h.1, by omega⟩), if_neg e]
  have g16 : ∀ q, 184 ≤ q → q % 16 = 8 → numAt (markB b2 c) (q + 16) = if n ≠ 0 ∧ q = n then m else numAt b (q + 16) := fun q h1 h2 => by
    rw [f3 _ (by omega), if_neg (by omega), f2 _ (by omega)]
    by_cases e : n ≠ 0 ∧ q = n
    · rw [if_pos ⟨e.1, by omega⟩, if_pos e]
    · rw [if_neg (fun h => e ⟨h.1, by omega⟩), if_neg e, f1 _ (by omega), if_neg (by rintro (h | h); omega; have := hmb h.1; omega)]
  refine ⟨_, htake, (t1.trans t2).trans t3, ?_, ?_, ?_, ?_, ?_⟩
  · rw [f3 0 rfl, if_pos rfl, g0]; exact setBit_lt h.w0 hc
  · intro d hd
    rw [f3 0 rfl, if_pos rfl, g0, bitAt_set]
    by_cases e : d = c
    · subst e
      rw [if_pos rfl, ghc, if_pos rfl, hfil]
      by_cases e : m = 0
      · rw [if_pos e, hmz.1 e]; simp [hnz]
      · have := (fun h => e (hmz.2 h) : l1 ≠ [])
        rw [if_neg e]
        have h1 := (h.headNe ht hd).2 (fun h => by rw [h] at ho; cases ho)
        have h2 : l1 ++ l2 ≠ [] := fun h => e (hmz.2 (List.append_eq_nil_iff.1 h).1)
        rw [decide_eq_true h1, decide_eq_true h2]
    · rw [if_neg e, if_neg e]; exact h.bit d hd
  · intro d hd
    by_cases e : d = c
    · subst e
      rw [if_pos rfl, hfil]
      have hh : numAt (markB b2 d) (headO d) = if m = 0 then n else numAt b (headO d) := by rw [f3 _ hho.2.1, if_neg (by omega), ghc]
      have h2 : ∃ z', Seg (markB b2 d) m n l2 z' 0 := by
        refine Seg.rehead s4 hnd2.2 (fun q hq => ?_) (fun q hq hne => ?_) (fun hne => ?_)
        · have h1 := hpl hc (hm2 q hq)
          rw [g8 q h1.1 h1.2.1, if_neg]
          rintro ⟨h2, rfl⟩
          exact (hnd1 _ (hmb h2).1).2 hq
        · have h1 := hpl hc (hm2 q hq)
          rw [g16 q h1.1 h1.2.1, if_neg (fun h => hne h.2)]
        · have h1 := hnb ((fun h => hne (hnz.1 h)))
          rw [g16 n h1.2.2.1 h1.2.2.2.1, if_pos ⟨(fun h => hne (hnz.1 h)), rfl⟩]
      obtain ⟨z', hz'⟩ := h2
      refine ⟨z', Seg.append.2 ⟨m, n, ?_, hz'⟩⟩
      rw [hh]
      by_cases e : m = 0
      · rw [if_pos e, hmz.1 e]
        exact ⟨e, rfl⟩
      · rw [if_neg e]
        have hne := (fun h => e (hmz.2 h) : l1 ≠ [])
        refine s1.retail hne hnd3 (fun q hq => ?_) (fun q hq hq2 => ?_) ?_
        · have h1 := hpl hc (hm1 q hq)
          rw [g16 q h1.1 h1.2.1, if_neg]
          rintro ⟨h2, rfl⟩
          exact (hnd1 _ hq).2 (hnb h2).1
        · have h1 := hpl hc (hm1 q hq)
          rw [g8 q h1.1 h1.2.1, if_neg (fun h => hq2 h.2)]
        · have h1 := hmb e
          rw [g8 m h1.2.2.1 h1.2.2.2.1, if_pos ⟨e, rfl⟩]
    · rw [if_neg e]
      obtain ⟨z2, hz2⟩ := h.seg d hd
      refine ⟨z2, ?_⟩
      rw [gh d hd e]
      refine hz2.frame fun q hq => ?_
      have h1 := hpl hd hq
      rw [g8 q h1.1 h1.2.1, g16 q h1.1 h1.2.1, if_neg, if_neg]
      · exact ⟨rfl, rfl⟩
      · rintro ⟨h2, rfl⟩; exact e (hsep hd hq (hm2 _ (hnb h2).1))
      · rintro ⟨h2, rfl⟩; exact e (hsep hd hq (hm1 _ (hmb h2).1))
  · intro d hd q hq
    by_cases e : d = c
    · subst e
      rw [if_pos rfl] at hq
      exact h.mem d hd q (List.mem_filter.1 hq).1
    · rw [if_neg e] at hq; exact h.mem d hd q hq
  · intro d hd
    by_cases e : d = c
    · subst e
      rw [if_pos rfl]; exact hnd0.filter _
    · rw [if_neg e]; exact h.nodup d hd
/-- A free block that is in no list is put into its own. -/
theorem putB_lists {b : List UInt8} {bs : List Blk} {ls : Nat → List Nat} (h : Lists b bs ls) (ht : Good b bs) (hl : 184 ≤ b.length) (hb : b.length ≤ 16384) {c : Nat} (hc : c < 22) {x : Blk} (hx : x ∈ bs) (hu : x.used = false) (hcl : cls x.size = c) (hno : x.off ∉ ls c) :
    ∃ b', putB b x.off = some b' ∧ Touch (LinkW bs) b b' ∧ Lists b' bs (fun d => if d = c then x.off :: ls c else ls d) := by
  have hg := (ht.mem hx).2.1
  have hgs := blkAt_some hg
  have hfree : freeB b x.off = some c := by unfold freeB; rw [hg]; simp [hu, hcl]
  have hpl := fun {d q : Nat} (hd : d < 22) (hq : q ∈ ls d) => h.place ht hd hq
  have hnod : ∀ d, d < 22 → x.off ∉ ls d := fun d hd hq => by
    obtain ⟨y, hy, e1, _, e2⟩ := h.mem d hd _ hq
    have g2 := (ht.mem hy).2.1
    rw [e1, hg] at g2
    simp only [Option.some.injEq] at g2
    subst g2
    have : (c : Int) = d := hcl.symm.trans e2
    have : c = d := by omega
    subst this
    exact hno hq
  obtain ⟨o, ho⟩ : ∃ o, x.off = o := ⟨_, rfl⟩
  rw [ho] at hno hfree hg hgs hnod ⊢
  obtain ⟨z, hz⟩ := h.seg c hc
  obtain ⟨n, hn⟩ : ∃ n, numAt b (headO c) = n := ⟨_, rfl⟩
  have hhd := h.head hc
  have hnz := h.headNe ht hc
  rw [hn] at hz hhd hnz
  have hnmem : n ≠ 0 → n ∈ ls c := fun e => by
    have := hnz.1 e
    rw [hhd]
    cases hl : ls c with
    | nil => exact absurd hl this
    | cons a r => exact List.mem_cons_self ..
  have hnb : n ≠ 0 → 184 ≤ n ∧ n % 16 = 8 ∧ n + 32 ≤ b.length ∧ memberB b n c = true ∧ n ≠ o := fun e => by
    have h1 := hpl hc (hnmem e)
    exact ⟨h1.1, h1.2.1, h1.2.2.1, h1.2.2.2, fun e2 => hno (e2 ▸ hnmem e)⟩
  have hnk : n < 18446744073709551616 := by have := numAt_lt b (headO c); omega
  have hho : headO c + 8 ≤ 184 ∧ headO c % 8 = 0 ∧ 0 < headO c := by unfold headO; omega
  have hcond : ¬ (n = o ∨ (n ≠ 0 ∧ memberB b n c = false)) := by
    rintro (e | ⟨e, e2⟩)
    · by_cases e0 : n = 0
      · omega
      · exact (hnb e0).2.2.2.2 e
    · rw [(hnb e).2.2.2.1] at e2; cases e2
  have hok : o < 18446744073709551616 := by omega
  obtain ⟨bA, hbA⟩ : ∃ bA, layAt (layAt b (o + 8) n) (o + 16) 0 = bA := ⟨_, rfl⟩
  obtain ⟨bB, hbB⟩ : ∃ bB, (if n = 0 then bA else layAt bA (n + 16) o) = bB := ⟨_, rfl⟩
  obtain ⟨bC, hbC⟩ : ∃ bC, layAt bB (headO c) o = bC := ⟨_, rfl⟩
  have hput : putB b o = some (markB bC c) := by
    unfold putB
    rw [hfree]
    simp only
    rw [hn, if_neg hcond, hbA, hbB, hbC]
  have lw0 : ∀ t, t + 8 ≤ 184 → LinkW bs t := fun t h => .inl h
  have lwo : LinkW bs (o + 8) ∧ LinkW bs (o + 16) := ⟨.inr ⟨x, hx, hu, .inl (by rw [ho])⟩, .inr ⟨x, hx, hu, .inr (by rw [ho])⟩⟩
  have lwn : n ≠ 0 → LinkW bs (n + 16) := fun e => by
    obtain ⟨y, hy, e1, e2, _⟩ := h.mem c hc n (hnmem e)
    exact .inr ⟨y, hy, e2, .inr (by rw [e1])⟩
  have hlA0 : (layAt b (o + 8) n).length = b.length := layAt_length _ _ _ (by omega)
  have tA : Touch (LinkW bs) b bA := by
    rw [← hbA]
    exact (Touch.lay b _ _ (by omega) lwo.1).trans (Touch.lay _ _ _ (by omega) lwo.2)
  have tB : Touch (LinkW bs) bA bB := by
    rw [← hbB]
    split
    · exact Touch.refl _ _
    · rename_i e; have := hnb e; exact Touch.lay bA _ _ (by rw [tA.len]; omega) (lwn e)
  have tC : Touch (LinkW bs) bB bC := by
    rw [← hbC]
    exact Touch.lay bB _ _ (by rw [tB.len, tA.len]; omega) (lw0 _ hho.1)
  have hCl : bC.length = b.length := tC.len.trans (tB.len.trans tA.len)
  have tD : Touch (LinkW bs) bC (markB bC c) := markB_touch (by omega) (lw0 0 (by omega))
  have fA : ∀ q, q % 8 = 0 → numAt bA q = if q = o + 16 then 0 else if q = o + 8 then n else numAt b q := fun q hq => by
    rw [← hbA, numAt_lay _ _ q 0 (by omega) (by decide) (by omega), numAt_lay _ _ q n (by omega) hnk (by omega)]
  have fB : ∀ q, q % 8 = 0 → numAt bB q = if n ≠ 0 ∧ q = n + 16 then o else numAt bA q := fun q hq => by
    rw [← hbB]
    by_cases e : n = 0
    · rw [if_pos e]; simp [e]
    · have := hnb e
      rw [if_neg e, numAt_lay bA _ q o (by rw [tA.len]; omega) hok (by omega)]
      by_cases e2 : q = n + 16 <;> simp [e, e2]
  have fC : ∀ q, q % 8 = 0 → numAt bC q = if q = headO c then o else numAt bB q := fun q hq => by
    rw [← hbC, numAt_lay bB _ q o (by rw [tB.len, tA.len]; omega) hok (by omega)]
  have fD := fun q hq => markB_num (b := bC) (c := c) (by omega) hc q hq
  have g0 : numAt bC 0 = numAt b 0 := by
    rw [fC 0 rfl, if_neg (by omega), fB 0 rfl, if_neg (by omega), fA 0 rfl, if_neg (by omega), if_neg (by omega)]
  have gh : ∀ d, d < 22 → d ≠ c → numAt (markB bC c) (headO d) = numAt b (headO d) := fun d hd hne => by
    have e1 : headO d ≠ headO c := by unfold headO; omega
    have e2 : headO d + 8 ≤ 184 ∧ 0 < headO d ∧ headO d % 8 = 0 := by unfold headO; omega
    rw [fD _ e2.2.2, if_neg (by omega), fC _ e2.2.2, if_neg e1, fB _ e2.2.2, if_neg (fun h => by have := hnb h.1; omega), fA _ e2.2.2, if_neg (by omega), if_neg (by omega)]
  have ghc : numAt bC (headO c) = o := by rw [fC _ hho.2.1, if_pos rfl]
  have g8 : ∀ q, 184 ≤ q → q % 16 = 8 → numAt (markB bC c) (q + 8) = if q = o then n else numAt b (q + 8) := fun q h1 h2 => by
    rw [fD _ (by omega), if_neg (by omega), fC _ (by omega), if_neg (by omega), fB _ (by omega), if_neg (fun h => by have := hnb h.1; omega), fA _ (by omega), if_neg (by omega)]
    by_cases e : q = o
    · rw [if_pos (by omega), if_pos e]
    · rw [if_neg (by omega), if_neg e]
  have g16 : ∀ q, 184 ≤ q → q % 16 = 8 → q ≠ o → numAt (markB bC c) (q + 16) = if n ≠ 0 ∧ q = n then o else numAt b (q + 16) := fun q h1 h2 h3 => by
    rw [fD _ (by omega), if_neg (by omega), fC _ (by omega), if_neg (by omega), fB _ (by omega)]
    by_cases e : n ≠ 0 ∧ q = n
    · rw [if_pos ⟨e.1, by omega⟩, if_pos e]
    · rw [if_neg (fun h => e ⟨h.1, by omega⟩), if_neg e, fA _ (by omega), if_neg (by omega), if_neg (by omega)]
  have go : numAt (markB bC c) (o + 16) = 0 := by
    rw [fD _ (by omega), if_neg (by omega), fC _ (by omega), if_neg (by omega), fB _ (by omega), if_neg (fun h => by have := hnb h.1; omega), fA _ (by omega), if_pos rfl]
  refine ⟨_, hput, ((tA.trans tB).trans tC).trans tD, ?_, ?_, ?_, ?_, ?_⟩
  · rw [fD 0 rfl, if_pos rfl, g0]; exact setBit_lt h.w0 hc
  · intro d hd
    rw [fD 0 rfl, if_pos rfl, g0, bitAt_set]
    by_cases e : d = c
    · subst e
      rw [if_pos rfl, ghc, if_pos rfl]
      have : o ≠ 0 := by omega
      simp [this]
    · rw [if_neg e, if_neg e]; exact h.bit d hd
  · intro d hd
    by_cases e : d = c
    · subst e
      rw [if_pos rfl]
      have hh : numAt (markB bC d) (headO d) = o := by rw [fD _ hho.2.1, if_neg (by omega), ghc]
      have h2 : ∃ z', Seg (markB bC d) o n (ls d) z' 0 := by
        refine Seg.rehead hz (h.nodup d hd) (fun q hq => ?_) (fun q hq hne => ?_) (fun hne => ?_)
        · have h1 := hpl hd hq
          rw [g8 q h1.1 h1.2.1, if_neg (fun e2 => hno (by rw [← e2]; exact hq))]
        · have h1 := hpl hd hq
          rw [g16 q h1.1 h1.2.1 (fun e2 => hno (by rw [← e2]; exact hq)), if_neg (fun h => hne h.2)]
        · have hne := hnz.2 hne
          have h1 := hnb hne
          rw [g16 n h1.1 h1.2.1 h1.2.2.2.2, if_pos ⟨hne, rfl⟩]
      obtain ⟨z', hz'⟩ := h2
      refine ⟨z', hh, go, ?_⟩
      rw [g8 o (by omega) (by omega), if_pos rfl]
      exact hz'
    · rw [if_neg e]
      obtain ⟨z2, hz2⟩ := h.seg d hd
      refine ⟨z2, ?_⟩
      rw [gh d hd e]
      refine hz2.frame fun q hq => ?_
      have h1 := hpl hd hq
      have h3 : q ≠ o := fun e => hnod d hd (e ▸ hq)
      rw [g8 q h1.1 h1.2.1, g16 q h1.1 h1.2.1 h3, if_neg h3, if_neg]
      · exact ⟨rfl, rfl⟩
      · rintro ⟨h2, rfl⟩; exact e (h.sep ht hd hc hq (hnmem h2))
  · intro d hd q hq
    by_cases e : d = c
    · subst e
      rw [if_pos rfl] at hq
      rcases List.mem_cons.1 hq with rfl | hq
      · exact ⟨x, hx, ho, hu, hcl⟩
      · exact h.mem d hd q hq
    · rw [if_neg e] at hq; exact h.mem d hd q hq
  · intro d hd
    by_cases e : d = c
    · subst e
      rw [if_pos rfl]; exact List.nodup_cons.2 ⟨hno, h.nodup d hd⟩
    · rw [if_neg e]; exact h.nodup d hd
/-! ### Made anew -/
theorem clearB_length {b : List UInt8} (h : 184 ≤ b.length) : (clearB b).length = b.length := by unfold clearB; rw [List.length_append, List.length_replicate, List.length_drop]; omega
theorem clearB_touch {b : List UInt8} (h : 184 ≤ b.length) (bs : List Blk) : Touch (LinkW bs) b (clearB b) := by
  refine ⟨clearB_length h, fun o n hn => ?_⟩
  by_cases h0 : n = 0
  · subst h0; simp
  · have ho : 184 ≤ o := by
      rcases Nat.lt_or_ge o 177 with h1 | h1
      · have := hn o (.inl (by omega)); omega
      · have := hn 176 (.inl (by omega)); omega
    unfold clearB
    rw [List.drop_append, List.drop_of_length_le (by rw [List.length_replicate]; omega), List.nil_append, List.length_replicate, List.drop_drop]
    rw [show 184 + (o - 184) = o by omega]
theorem clearB_num {b : List UInt8} (h : 184 ≤ b.length) (o : Nat) (ho : o + 8 ≤ 184) : numAt (clearB b) o = 0 := by
  unfold numAt
  rw [if_pos (by rw [clearB_length h]; omega)]
  unfold clearB
  rw [List.drop_append_of_le_length (by rw [List.length_replicate]; omega), List.take_append_of_le_length (by rw [List.length_drop, List.length_replicate]; omega), List.drop_replicate, List.take_replicate]
  have : ∀ n, num (List.replicate n 0) = 0 := by
    intro n
    induction n with
    | zero => rfl
    | succ n ih => rw [List.replicate_succ]; unfold num; rw [ih]; rfl
  exact this _
theorem clear_lists {b : List UInt8} {bs : List Blk} (h : 184 ≤ b.length) : Lists (clearB b) bs fun _ => [] := by
  refine ⟨by rw [clearB_num h 0 (by omega)]; decide, fun c hc => ?_, fun c hc => ?_, (fun c hc o ho => by cases ho), fun c hc => List.nodup_nil⟩
  · rw [clearB_num h 0 (by omega)]; unfold bitAt; simp
  · rw [clearB_num h (headO c) (by unfold headO; omega)]; exact ⟨0, rfl, rfl⟩
/-- The lists made anew: the free blocks of each class, the last one first. -/
def anew (bs : List Blk) (c : Nat) : List Nat := ((bs.filter fun x => !x.used && decide (cls x.size = c)).map (·.off)).reverse
theorem anew_snoc (bs : List Blk) (x : Blk) (c : Nat) : anew (bs ++ [x]) c = if x.used = false ∧ cls x.size = c then x.off :: anew bs c else anew bs c := by
  unfold anew
  rw [List.filter_append, List.map_append, List.reverse_append]
  by_cases h : x.used = false ∧ cls x.size = c
  · rw [if_pos h]; simp [h]
  · rw [if_neg h]
    have : (!x.used && decide (cls x.size = c)) = false := by
      cases hu : x.used <;> simp_all
    simp [this]
theorem cls_size {s : Int} (h : isSize s = true) : 0 ≤ cls s ∧ cls s < 22 := by
  have := (isSize_iff s).1 h
  unfold cls; rw [h]; simp only [if_true]
  repeat' split
  all_goals omega
theorem blkAt_isSize {b : List UInt8} {o : Nat} {x : Blk} (h : blkAt b o = some x) : isSize x.size = true := by
  have := blkAt_some h
  exact isSize_yes (by omega)
theorem putAll_lists {bs : List Blk} : ∀ (r p : List Blk) (b : List UInt8), bs = p ++ r → Tile b 184 bs → 184 ≤ b.length → b.length ≤ 16384 → Lists b bs (anew p) → Touch (LinkW bs) b (putAll b r) ∧ Lists (putAll b r) bs (anew bs)
  | [], p, b, hb, _, _, _, h => by
    rw [List.append_nil] at hb
    subst hb
    exact ⟨Touch.refl _ _, h⟩
  | x :: r, p, b, hb, ht, hl, hm, h => by
    have hx : x ∈ bs := by rw [hb]; exact List.mem_append_right _ (List.mem_cons_self ..)
    have hg := (ht.mem hx).2.1
    have hbs : bs = (p ++ [x]) ++ r := by rw [hb]; simp
    unfold putAll
    cases hu : x.used with
    | true =>
      simp only [if_true]
      refine putAll_lists r (p ++ [x]) b hbs ht hl hm ?_
      have : anew (p ++ [x]) = anew p := by funext c; rw [anew_snoc, if_neg]; rw [hu]; simp
      rw [this]; exact h
    | false =>
      have hc := cls_size (blkAt_isSize hg)
      have hno : x.off ∉ anew p (cls x.size).toNat := by
        intro hm
        unfold anew at hm
        rw [List.mem_reverse] at hm
        obtain ⟨y, hy, e⟩ := List.mem_map.1 hm
        have hy := (List.mem_filter.1 hy).1
        have hpw : ∀ (r : List Blk) (o : Nat), Tile b o (r) → r.Pairwise fun u v => u.off ≠ v.off := by
          intro r
          induction r with
          | nil => intro _ _; exact List.Pairwise.nil
          | cons u r ih =>
            intro o h1
            refine List.Pairwise.cons (fun v hv => ?_) (ih _ h1.2)
            have h2 := blkAt_some h1.1
            have h3 := h1.2.mem hv
            omega
        have hp := hpw bs 184 ht
        rw [hb] at hp
        have := (List.pairwise_append.1 hp).2.2 y hy x (List.mem_cons_self ..)
        exact this e
      obtain ⟨b', h1, h2, h3⟩ := putB_lists h ht.good hl hm (c := (cls x.size).toNat) (by omega) hx hu (by omega) hno
      rw [h1]
      simp only [Bool.false_eq_true, if_false, Option.getD_some]
      have h4 := putAll_lists r (p ++ [x]) b' hbs (ht.touch hl h2) (by rw [h2.len]; exact hl) (by rw [h2.len]; exact hm) (by
        have : anew (p ++ [x]) = fun d => if d = (cls x.size).toNat then x.off :: anew p (cls x.size).toNat else anew p d := by
          funext d
          rw [anew_snoc]
          by_cases e : d = (cls x.size).toNat
          · subst e; rw [if_pos ⟨hu, by omega⟩, if_pos rfl]
          · rw [if_neg (by intro h; omega), if_neg e]
        rw [this]; exact h3)
      exact ⟨h2.trans h4.1, h4.2⟩
/-- Made anew, the lists have just the free blocks. -/
theorem rebuild_lists {b : List UInt8} {bs : List Blk} (ht : Tile b 184 bs) (hl : 184 ≤ b.length) (hb : b.length ≤ 16384) :
    ∃ b', rebuildB b = some b' ∧ Touch (LinkW bs) b b' ∧ Tile b' 184 bs ∧ Lists b' bs (anew bs) := by
  have hw := (walkB_tile b bs).2 ⟨hl, ht⟩
  have h1 := clearB_touch hl bs
  have h2 := putAll_lists bs [] (clearB b) rfl (ht.touch hl h1) (by rw [h1.len]; exact hl) (by rw [h1.len]; exact hb) (clear_lists hl)
  refine ⟨putAll (clearB b) bs, by unfold rebuildB; rw [hw]; rfl, h1.trans h2.1, ht.touch hl (h1.trans h2.1), h2.2⟩
end Go.Own

/- Blocks that are set one behind the other tile the bytes. No program. -/
namespace Go.Own
/-- Both tags laid: there the block is. -/
theorem blkAt_setB {b : List UInt8} {o s : Nat} {u : Bool} (h1 : 184 ≤ o) (h2 : o % 16 = 8) (h3 : isSize s = true) (h4 : o + s ≤ b.length) : blkAt (setB b ⟨o, s, u⟩) o = some ⟨o, s, u⟩ := by
  have hs := (isSize_iff _).1 h3
  have hr := tagOf_rng s u
  have hT : tagB ⟨o, s, u⟩ = (tagOf s u).toNat := rfl
  have hl1 : (layAt b o (tagB ⟨o, s, u⟩)).length = b.length := layAt_length b o _ (by omega)
  refine blkAt_mk h1 h2 h3 ?_ ?_ ?_
  · rw [setB_length b ⟨o, s, u⟩ (by show 16 ≤ s; omega) (by show o + s ≤ _; omega)]; exact h4
  · show numAt (layAt (layAt b o (tagB ⟨o, s, u⟩)) (o + s - 8) (tagB ⟨o, s, u⟩)) o = _
    rw [numAt_far _ _ _ _ (by rw [hl1]; omega) (by omega), numAt_same _ _ _ (by omega) (by rw [hT]; omega), hT]
  · show numAt (layAt (layAt b o (tagB ⟨o, s, u⟩)) (o + s - 8) (tagB ⟨o, s, u⟩)) (o + s - 8) = _
    rw [numAt_same _ _ _ (by rw [hl1]; omega) (by rw [hT]; omega), hT]
/-- A block ahead of its end. -/
theorem aheadB_of {b : List UInt8} {o : Nat} {x : Blk} (h : blkAt b o = some x) : aheadB b (o + x.size) = some x := by
  obtain ⟨x1, x2, x3, x4, x5, x6, x7, x8, x9, x10, x11, x12⟩ := blkAt_some h
  have hn : numAt b (o + x.size - 8) = numAt b o := x11
  unfold aheadB
  rw [hn, if_pos ⟨by omega, by omega, x8⟩]
  have hS : (tagS ((numAt b o : Nat) : Int)).toNat = x.size := by rw [← x9]; exact Int.toNat_natCast _
  rw [hS, show o + x.size - x.size = o by omega, h]
  simp only
  rw [if_pos ⟨by omega, trivial, x10⟩]
/-- Where blocks end that begin at o. -/
def endOf (o : Nat) : List Blk → Nat
  | [] => o
  | x :: l => endOf (o + x.size) l
/-- One behind the other from o on, each of a size. -/
def Chain (o : Nat) : List Blk → Prop
  | [] => True
  | x :: l => x.off = o ∧ isSize x.size = true ∧ Chain (o + x.size) l
theorem endOf_append : ∀ (l1 l2 : List Blk) (o : Nat), endOf o (l1 ++ l2) = endOf (endOf o l1) l2
  | [], _, _ => rfl
  | x :: l1, l2, o => endOf_append l1 l2 (o + x.size)
theorem endOf_snoc (l : List Blk) (x : Blk) (o : Nat) : endOf o (l ++ [x]) = endOf o l + x.size := by rw [endOf_append]; rfl
theorem Chain.append : ∀ {l1 l2 : List Blk} {o : Nat}, Chain o (l1 ++ l2) ↔ Chain o l1 ∧ Chain (endOf o l1) l2
  | [], _, _ => ⟨fun h => ⟨trivial, h⟩, fun h => h.2⟩
  | x :: l1, l2, o => by
    simp only [List.cons_append, Chain, endOf, Chain.append (l1 := l1)]
    exact ⟨fun ⟨a, b, c, d⟩ => ⟨⟨a, b, c⟩, d⟩, fun ⟨⟨a, b, c⟩, d⟩ => ⟨a, b, c, d⟩⟩
theorem Chain.snoc {l : List Blk} {o : Nat} {x : Blk} (h : Chain o l) (h1 : x.off = endOf o l) (h2 : isSize x.size = true) : Chain o (l ++ [x]) := Chain.append.2 ⟨h, h1, h2, trivial⟩
theorem endOf_ge : ∀ (l : List Blk) (o : Nat), o ≤ endOf o l
  | [], _ => Nat.le_refl _
  | x :: l, o => Nat.le_trans (Nat.le_add_right _ _) (endOf_ge l (o + x.size))
theorem Chain.mod : ∀ {l : List Blk} {o : Nat}, Chain o l → o % 16 = 8 → endOf o l % 16 = 8
  | [], _, _, h => h
  | x :: l, o, h, h8 => by
    have := (isSize_iff _).1 h.2.1
    exact (show endOf (o + x.size) l % 16 = 8 from Chain.mod h.2.2 (by omega))
theorem Chain.mem {x : Blk} : ∀ {l : List Blk} {o : Nat}, Chain o l → x ∈ l → o ≤ x.off ∧ isSize x.size = true ∧ x.off + x.size ≤ endOf o l
  | [], _, _, h => by cases h
  | y :: l, o, h, hx => by
    rcases List.mem_cons.1 hx with rfl | hx
    · have := endOf_ge l (o + x.size)
      refine ⟨Nat.le_of_eq h.1.symm, h.2.1, ?_⟩
      rw [h.1]; exact this
    · obtain ⟨a, b, c⟩ := Chain.mem h.2.2 hx
      exact ⟨by omega, b, c⟩
theorem Chain.at : ∀ {l : List Blk} {o : Nat} (k : Nat) (hk : k < l.length), Chain o l → l[k].off = endOf o (l.take k)
  | [], _, k, hk, _ => absurd hk (by simp)
  | y :: l, o, 0, hk, h => h.1
  | y :: l, o, k + 1, hk, h => Chain.at (l := l) (o := o + y.size) k (by simpa using hk) h.2.2
theorem endOf_take_le : ∀ (l : List Blk) (o k : Nat), endOf o (l.take k) ≤ endOf o l
  | [], _, k => by rw [List.take_nil]; exact Nat.le_refl _
  | y :: l, o, 0 => endOf_ge (y :: l) o
  | y :: l, o, k + 1 => endOf_take_le l (o + y.size) k
def setAll (b : List UInt8) : List Blk → List UInt8
  | [] => b
  | x :: l => setAll (setB b x) l
theorem setAll_append : ∀ (l1 l2 : List Blk) (b : List UInt8), setAll b (l1 ++ l2) = setAll (setAll b l1) l2
  | [], _, _ => rfl
  | x :: l1, l2, b => setAll_append l1 l2 (setB b x)
theorem setB_touch {T : Nat → Prop} (b : List UInt8) (x : Blk) (h1 : 16 ≤ x.size) (h2 : x.off + x.size ≤ b.length) (t1 : T x.off) (t2 : T (x.off + x.size - 8)) : Touch T b (setB b x) :=
  (Touch.lay b x.off (tagB x) (by omega) t1).trans (Touch.lay _ _ (tagB x) (by rw [layAt_length _ _ _ (by omega)]; omega) t2)
theorem Chain.touch : ∀ {l : List Blk} {o : Nat} {b : List UInt8}, Chain o l → endOf o l ≤ b.length → Touch (fun t => o ≤ t) b (setAll b l)
  | [], _, _, _, _ => Touch.refl _ _
  | x :: l, o, b, h, he => by
    have hs := (isSize_iff _).1 h.2.1
    have hg := endOf_ge l (o + x.size)
    have he : endOf (o + x.size) l ≤ b.length := he
    have h1 : x.off = o := h.1
    have t1 : Touch (fun t => o ≤ t) b (setB b x) := setB_touch b x (by omega) (by omega) (show o ≤ x.off by omega) (show o ≤ x.off + x.size - 8 by omega)
    have t2 := Chain.touch (b := setB b x) h.2.2 (by rw [t1.len]; exact he)
    exact t1.trans (t2.mono fun t ht => by omega)
theorem Chain.setAll_length {l : List Blk} {o : Nat} {b : List UInt8} (h : Chain o l) (he : endOf o l ≤ b.length) : (setAll b l).length = b.length := (h.touch he).len
theorem Chain.tile : ∀ {l : List Blk} {o : Nat} {b : List UInt8}, Chain o l → 184 ≤ o → o % 16 = 8 → endOf o l = b.length → Tile (setAll b l) o l
  | [], _, _, _, _, _, he => he
  | x :: l, o, b, h, h1, h8, he => by
    have hs := (isSize_iff _).1 h.2.1
    have hg := endOf_ge l (o + x.size)
    have he : endOf (o + x.size) l = b.length := he
    have hl := setB_length b x (by omega) (by rw [h.1]; omega)
    refine ⟨?_, Chain.tile h.2.2 (by omega) (by omega) (by rw [hl]; exact he)⟩
    obtain ⟨xo, xs, xu⟩ := x
    obtain rfl : xo = o := h.1
    simp only at hs hg he hl
    have t2 : Touch (fun t => xo + xs ≤ t) (setB b ⟨xo, xs, xu⟩) (setAll (setB b ⟨xo, xs, xu⟩) l) := Chain.touch (b := setB b ⟨xo, xs, xu⟩) h.2.2 (by rw [hl]; exact Nat.le_of_eq he)
    exact blkAt_touch t2 (blkAt_setB h1 h8 h.2.1 (by omega)) fun t ht => by simp only; omega
theorem Tile.chain {b : List UInt8} : ∀ {l : List Blk} {o : Nat}, Tile b o l → Chain o l ∧ endOf o l = b.length
  | [], _, h => ⟨trivial, h⟩
  | x :: l, o, h => by
    have hx := blkAt_some h.1
    obtain ⟨a, b⟩ := Tile.chain h.2
    exact ⟨⟨hx.1, blkAt_isSize h.1, a⟩, b⟩
end Go.Own

/- The reference's arena: its contracts. -/
namespace Go.Proofs.Ytjijniillehfoaa
open Go Go.RowKit Go.Own
set_option linter.unusedVariables false
set_option maxRecDepth 100000
abbrev ArR (w : World) (p : Nat) (A : Ar) (v : Value) : Prop := ArAt 56 5 w p A v
abbrev RaT (p : Nat) (A : Ar) : Ob := ArO 56 5 p A
theorem rar_There_ok (w : World) (p : Nat) (A : Ar) (v : Value) (h : ArR w p A v) (addr : Int) (i : Nat) (hi : addr = A.base + i) (n : Int) (m : Nat) (hn : n = m) (hf : i + m ≤ A.b.length) :
    Calls Try.prog 218 #[arP p, .int .u64 addr, .int .u64 n] w fun e w' => e = .returned (.tuple #[.int .i64 i, .bool true]) ∧ Below w.heap.size w w' := by
  obtain ⟨a, c, rfl, hB, hg, hcr⟩ := h.form
  have q0 : w.cell? ⟨p, 0, none⟩ = some (.int .u64 A.base) := h.row.cell 0
  have q2 : w.cell? ⟨p, 2, none⟩ = some (.slice a A.b.length c) := h.row.cell 2
  have hb := h.hbase; have hc1 := h.hcap; have hc2 := h.hlen
  have g1 : (A.base : Int) ≤ addr := by omega
  have g2 : addr - (A.base : Int) ≤ (A.b.length : Int) := by omega
  have g3 : n ≤ (A.b.length : Int) - (addr - (A.base : Int)) := by omega
  have g4 : 0 ≤ n := by omega
  have HE := Lib.hid (show addr - (A.base : Int) = (i : Int) by omega)
  clear h hB hg hi hn hf
  have s1 : IntKind.u64.wrap (addr - (A.base : Int)) = addr - (A.base : Int) := wrapU64 (by omega) (by omega)
  have s3 : IntKind.u64.wrap (A.b.length : Int) = A.b.length := wrapU64 (by omega) (by omega)
  have d1 : decide (addr < (A.base : Int)) = false := by simp; omega
  have d2 : decide ((A.b.length : Int) < addr - (A.base : Int)) = false := by simp; omega
  have d3 : decide ((A.b.length : Int) < n) = false := by simp; omega
  go_enter Try.func218, Try.ntmps218
  go_wp2
  go_quiet (fail)
  clear s1 s3 d1 d2 d3
  go_wp2
  go_ret2
  exact ⟨by simp [HE.out], below_drewN (Below.refl _ _) _⟩
theorem rar_There_bad (w : World) (p : Nat) (A : Ar) (v : Value) (h : ArR w p A v) (addr n : Int) (h0 : 0 ≤ addr) (h1 : addr ≤ 18446744073709551615) (n0 : 0 ≤ n) (n1 : n ≤ 18446744073709551615) (hf : ¬ ((A.base : Int) ≤ addr ∧ addr - A.base + n ≤ A.b.length)) :
    Calls Try.prog 218 #[arP p, .int .u64 addr, .int .u64 n] w fun e w' => e = .returned (.tuple #[.int .i64 0, .bool false]) ∧ Below w.heap.size w w' := by
  obtain ⟨a, c, rfl, hB, hg, hcr⟩ := h.form
  have q0 : w.cell? ⟨p, 0, none⟩ = some (.int .u64 A.base) := h.row.cell 0
  have q2 : w.cell? ⟨p, 2, none⟩ = some (.slice a A.b.length c) := h.row.cell 2
  have hb := h.hbase; have hc1 := h.hcap; have hc2 := h.hlen
  clear h hB hg
  have s3 : IntKind.u64.wrap (A.b.length : Int) = A.b.length := wrapU64 (by omega) (by omega)
  by_cases c1 : addr < A.base
  · have d1 : decide (addr < (A.base : Int)) = true := by simp; omega
    clear hf
    go_enter Try.func218, Try.ntmps218
    go_wp2
    go_quiet (fail)
    clear s3 d1
    go_wp2
    go_ret2
    exact ⟨rfl, below_drewN (Below.refl _ _) _⟩
  · have d1 : decide (addr < (A.base : Int)) = false := by simp; omega
    have s1 : IntKind.u64.wrap (addr - (A.base : Int)) = addr - (A.base : Int) := wrapU64 (by omega) (by omega)
    by_cases c2 : (A.b.length : Int) < addr - A.base
    · have d2 : decide ((A.b.length : Int) < addr - (A.base : Int)) = true := by simp; omega
      clear hf
      go_enter Try.func218, Try.ntmps218
      go_wp2
      go_quiet (fail)
      clear s1 s3 d1 d2
      go_wp2
      go_ret2
      exact ⟨rfl, below_drewN (Below.refl _ _) _⟩
    · have d2 : decide ((A.b.length : Int) < addr - (A.base : Int)) = false := by simp; omega
      by_cases c3 : (A.b.length : Int) < n
      · have d3 : decide ((A.b.length : Int) < n) = true := by simp; omega
        clear hf
        go_enter Try.func218, Try.ntmps218
        go_wp2
        go_quiet (fail)
        clear s1 s3 d1 d2 d3
        go_wp2
        go_ret2
        exact ⟨rfl, below_drewN (Below.refl _ _) _⟩
      · have d3 : decide ((A.b.length : Int) < n) = false := by simp; omega
        have c4 : (A.b.length : Int) - (addr - A.base) < n := by omega
        clear hf
        go_enter Try.func218, Try.ntmps218
        go_wp2
        go_quiet (fail)
        clear s1 s3 d1 d2 d3
        go_wp2
        go_ret2
        exact ⟨rfl, below_drewN (Below.refl _ _) _⟩
section
variable {B : Nat} {w0 w : World} {l : List Ob} {i p : Nat} {A : Ar}
theorem rar_Load (h : St B w0 w l) (hi : l[i]? = some (RaT p A)) (addr n : Int) (h0 : 0 ≤ addr) (h1 : addr ≤ 18446744073709551615) (n0 : 0 ≤ n) (n1 : n ≤ 18446744073709551615) :
    Calls Try.prog 143 #[arP p, .int .u64 addr, .int .u64 n] w fun e w' => ∃ v, e = .returned (.tuple #[v, .int .i64 (A.load addr n).1]) ∧ St B w0 w' (OwB v (A.load addr n).2 :: l) := by
  obtain ⟨v, ha⟩ := h.ar hi
  unfold Ar.load
  split
  · rename_i ht
    obtain ⟨m, rfl⟩ := Int.eq_ofNat_of_zero_le n0
    have hle := Ar.there_le (m := m) ht rfl
    have K := Lib.hid (rar_There_ok w p A v ha addr _ (Ar.there_at ht) m m rfl hle)
    obtain ⟨a, c, rfl, hB, _, _⟩ := ha.form
    have q2 : w.cell? ⟨p, 2, none⟩ = some (.slice a A.b.length c) := ha.row.cell 2
    have hc2 := ha.hlen; have hc1 := ha.hcap
    generalize A.at' addr = j at *
    have hs5 : (Try.prog.info? 5).map (·.size) = some 1 := by kernel_rfl
    obtain ⟨x1, y1, e1, z1, _⟩ := piece Try.underlying31 hs5 hB .i64 .i64 (j : Int) ((j : Int) + (m : Int)) j (j + m) rfl (by simp) (by omega) (by omega)
    rw [show j + m - j = m by omega, List.drop_take, show j + m - j = m by omega] at z1
    rw [show j + m - j = m by omega] at e1
    have H := Lib.hid h; have Z1 := Lib.hid z1; have HR := Lib.hid ha.row
    have hlz : ((A.b.drop j).take m).length = m := by simp; omega
    clear h hi ha hB ht z1 q2
    go_enter Try.func143, Try.ntmps143
    go_wp2_with fail
    refine K.out.mono ?_
    rintro e w1 ⟨rfl, b1⟩
    have q2 : w1.cell? ⟨p, 2, none⟩ = some (.slice a A.b.length c) := (HR.out.below b1).cell 2
    have hlt1 : p < w1.heap.size := (HR.out.below b1).lt
    have H1 := Lib.hid (H.out.below b1); have B1 := Lib.hid b1; have Z2 := Lib.hid (Z1.out.below b1)
    clear b1
    go_wp2_with (at_builtin; go_must (refine app_sl rfl _ _ 31 rfl w1.heap.size 5 (.int .u8 0) 1 1 Try.underlying31 info_u8 rfl (by decide) _ 0 [] rfl (own_empty w1 _ _) _ _ _ _ rfl (Z2.out.below ((Below.refl _ _).alloc (Nat.le_refl _) _)) (bv_one _) (by omega) (by omega) (by simp) ?_; intro v1 w2 hown1 hg1))
    go_ret2
    refine ⟨v1, rfl, H1.out.addOwn (((Below.refl _ _).alloc (Nat.le_refl _) _).trans hg1) ?_⟩
    exact ownsRow_map hown1 (by simp; omega) (by simp)
  · rename_i ht
    have K := Lib.hid (rar_There_bad w p A v ha addr n h0 h1 n0 n1 (Ar.there_no ht))
    have H := Lib.hid h
    clear h hi ha ht
    go_enter Try.func143, Try.ntmps143
    go_wp2_with fail
    refine K.out.mono ?_
    rintro e w1 ⟨rfl, b1⟩
    have H1 := Lib.hid (H.out.addOwn b1 (World.ownsRow_nil _ _ 5 1))
    clear b1
    go_wp2
    go_ret2
    exact ⟨_, rfl, H1.out⟩
theorem rar_Word (h : St B w0 w l) (hi : l[i]? = some (RaT p A)) (addr : Int) (h0 : 0 ≤ addr) (h1 : addr ≤ 18446744073709551615) :
    Calls Try.prog 147 #[arP p, .int .u64 addr] w fun e w' => e = .returned (.tuple #[.int .u64 ((A.word addr).2 : Nat), .int .i64 (A.word addr).1]) ∧ St B w0 w' l := by
  have hk := rar_Load h hi addr 8 h0 h1 (by decide) (by decide)
  have K := Lib.hid hk
  have hn : num (A.load addr 8).2 = (A.word addr).2 ∧ (A.load addr 8).1 = (A.word addr).1 ∧ (A.load addr 8).2.length ≤ 8 := by
    unfold Ar.load Ar.word
    split
    · rename_i ht
      have hle := Ar.there_le (m := 8) ht rfl
      refine ⟨?_, rfl, by simp; omega⟩
      unfold numAt
      rw [if_pos hle]
      rfl
    · exact ⟨rfl, rfl, by simp⟩
  have HN := Lib.hid hn
  clear h hi hk hn
  go_enter Try.func147, Try.ntmps147
  go_wp2_with fail
  refine K.out.mono ?_
  rintro e w1 ⟨v, rfl, h1⟩
  obtain ⟨a, c, rfl, h2⟩ := h1.ownBs
  have hb := h2.bsO (i := 0) rfl
  have H1 := Lib.hid h2.tail; have HB := Lib.hid hb
  clear h1 h2 hb
  go_wp2_with fail
  refine (ref_Num w1 a _ c _ HB.out HN.out.2.2).mono ?_
  rintro e w' ⟨rfl, rfl⟩
  rw [HN.out.1, HN.out.2.1]
  go_wp2
  go_ret2
  exact ⟨rfl, H1.out⟩
end
end Go.Proofs.Ytjijniillehfoaa

/- The reference's arena: Store, Copy, Fill, Grow, Widen. -/
namespace Go.Proofs.Ytjijniillehfoaa
open Go Go.RowKit Go.Own
set_option linter.unusedVariables false
set_option maxRecDepth 100000
set_option maxHeartbeats 4000000 in
theorem rar_Store_ok (w : World) (p : Nat) (A : Ar) (v : Value) (h : ArR w p A v) (addr : Int) (i : Nat) (hi : addr = A.base + i) (a : Option Addr) (n c : Nat) (b : List UInt8) (hb : Bs w a n c b) (hd : ∀ q, a = some q → 0 < b.length → ¬ v.ownBlock = some q.block) (hf : i + b.length ≤ A.b.length) :
    Calls Try.prog 145 #[arP p, .int .u64 addr, .slice a n c] w fun e w' => e = .returned (.int .i64 0) ∧ ArR w' p { A with b := lay A.b i b } v ∧ Keep (fun k => v.ownBlock = some k) w w' := by
  have hn := hb.len
  subst hn
  have hl1 := h.hlen; have hl2 := h.hcap
  have K := Lib.hid (rar_There_ok w p A v h addr i hi b.length b.length rfl hf)
  have hap := Lib.hid (h.apart (by decide))
  have H := Lib.hid h; have HB := Lib.hid hb; have HD := Lib.hid hd
  clear h hb hi hd
  go_enter Try.func145, Try.ntmps145
  go_wp2_with fail
  refine K.out.mono ?_
  rintro e w1 ⟨rfl, b1⟩
  have H1 := Lib.hid (H.out.below b1); have HB1 := Lib.hid (HB.out.below b1); have B1 := Lib.hid b1
  clear b1
  by_cases h0 : 0 < b.length
  · obtain ⟨aa, cap, hv, _⟩ := H.out.form
    subst hv
    obtain ⟨g, rfl⟩ := H.out.at_ i b.length hf h0
    have hpg : ¬ p = g := fun e => hap.out (by rw [e]; rfl)
    go_wp2
    go_loopw [9] (fun x wr => ∃ k : Nat, k ≤ b.length ∧ x = .int .i64 k ∧ ArR wr p { A with b := lay A.b i (b.take k) } (.slice (some ⟨g, 0, none⟩) A.b.length cap) ∧ Keep (· = g) w1 wr) (fun x _ => b.length - (intOf x).toNat)
    case atStart => exact ⟨0, Nat.zero_le _, rfl, by rw [List.take_zero, lay_nil]; exact H1.out, Keep.refl _ _⟩
    case round =>
      obtain ⟨k, hk, rfl, hA, hK⟩ := hrel
      by_cases hlt : k < b.length
      · have hll : (lay A.b i (b.take k)).length = A.b.length := lay_length _ _ _ (by rw [List.length_take]; omega)
        obtain ⟨q1, q2, q3, q4⟩ := setByte (by decide) hA.drew (i + k) (by show i + k < (lay A.b i (b.take k)).length; rw [hll]; omega) b[k]
        simp only at q3
        rw [lay_snoc A.b b i k (by omega) hlt] at q3
        have HW := hA.row.drew
        have HBw := HB1.out.keep hK (fun q hq hf => HD.out q hq h0 (by rw [show q.block = g from hf]; rfl))
        have HBd := Lib.hid HBw.drew
        have HOF := Lib.hid (fun q (hq : a = some q) (hf : q.block = g) => HD.out q hq h0 (by rw [hf]; rfl))
        have Q3 := Lib.hid q3; have HK := Lib.hid hK; have HR := Lib.hid HW
        obtain ⟨bb, bo, rfl, _⟩ := HBw.at k hlt
        have hx := b[k].toNat_lt
        have HBK := Lib.hid (show ∀ w', Keep (fun x => x = g) wr.drew w' → w'.cell? ⟨bb, bo + k, none⟩ = some (.int .u8 (b[k].toNat : Nat)) from fun w' hk => by
          obtain ⟨_, _, e, hc⟩ := (HBd.out.keep hk HOF.out).at k hlt
          cases e; exact hc)
        generalize b[k] = bk at *
        have s1 : IntKind.i64.wrap ((i : Int) + (k : Int)) = (i : Int) + (k : Int) := IntWalk.i64_in _ (by omega)
        have s2 : 0 ≤ (i : Int) + (k : Int) := by omega
        have s3 : (i : Int) + (k : Int) < (A.b.length : Int) := by omega
        have s4 : ((i : Int) + (k : Int)).toNat = i + k := by omega
        obtain ⟨u, qu⟩ : ∃ u, wr.drew.cell? ⟨g, i + k, none⟩ = some u := ⟨_, q1⟩
        clear q1; clear hA hK hll q3 HW HBw
        go_wp2
        refine flowe_begin (F := fun x => x = g) hmixed 13 rfl (by repeat (first | with_reducible refine ps_then ?_ | with_reducible refine ps_block ?_ | with_reducible exact ps_body | refine ps_then ?_ | refine ps_block ?_ | exact ps_body)) (fun hps => ?_)
        simp only [List.replicate]
        have kk := (Keep.refl (fun x => x = g) (wr)).drew
        refine flowe_take 0 (v := ?_) (a' := ?_) hps rfl (by kernel_rfl) rfl ?_ ?_ ?_
        rotate_left 2
        · intro w' hk; go_simp; try rfl
        · simp only [Act.put, List.setIfInBounds_toArray, List.set_cons_succ, List.set_cons_zero]; try rfl
        refine flowe_take 1 (v := ?_) (a' := ?_) hps rfl (by kernel_rfl) rfl ?_ ?_ ?_
        rotate_left 2
        · intro w' hk; go_simp; try rfl
        · simp only [Act.put, List.setIfInBounds_toArray, List.set_cons_succ, List.set_cons_zero]; try rfl
        refine flowe_take 2 (v := ?_) (a' := ?_) hps rfl (by kernel_rfl) rfl ?_ ?_ ?_
        rotate_left 2
        · intro w' hk; go_simp; try rfl
        · simp only [Act.put, List.setIfInBounds_toArray, List.set_cons_succ, List.set_cons_zero]; try rfl
        refine flowe_take 3 (v := ?_) (a' := ?_) hps rfl (by kernel_rfl) rfl ?_ ?_ ?_
        rotate_left 2
        · intro w' hk; have hc := (HR.out.keep hk hpg).cell 2; simp only [List.getElem?_cons_succ, List.getElem?_cons_zero] at hc; go_simp; try rfl
        · simp only [Act.put, List.setIfInBounds_toArray, List.set_cons_succ, List.set_cons_zero]; try rfl
        refine flowe_take 4 (v := ?_) (a' := ?_) hps rfl (by kernel_rfl) rfl ?_ ?_ ?_
        rotate_left 2
        · intro w' hk; go_simp; try rfl
        · simp only [Act.put, List.setIfInBounds_toArray, List.set_cons_succ, List.set_cons_zero]; try rfl
        refine flowe_take 5 (v := ?_) (a' := ?_) hps rfl (by kernel_rfl) rfl ?_ ?_ ?_
        rotate_left 2
        · intro w' hk; go_simp; try rfl
        · simp only [Act.put, List.setIfInBounds_toArray, List.set_cons_succ, List.set_cons_zero]; try rfl
        refine flowe_take 6 (v := ?_) (a' := ?_) hps rfl (by kernel_rfl) rfl ?_ ?_ ?_
        rotate_left 2
        · intro w' hk; go_simp; try rfl
        · simp only [Act.put, List.setIfInBounds_toArray, List.set_cons_succ, List.set_cons_zero]; try rfl
        refine flowe_take 7 (v := ?_) (a' := ?_) hps rfl (by kernel_rfl) rfl ?_ ?_ ?_
        rotate_left 2
        · intro w' hk; go_simp; try rfl
        · simp only [Act.put, List.setIfInBounds_toArray, List.set_cons_succ, List.set_cons_zero]; try rfl
        refine flowe_take 8 (v := ?_) (a' := ?_) hps rfl (by kernel_rfl) rfl ?_ ?_ ?_
        rotate_left 2
        · intro w' hk; go_simp; try rfl
        · simp only [Act.put, List.setIfInBounds_toArray, List.set_cons_succ, List.set_cons_zero]; try rfl
        refine flowe_take 9 (v := ?_) (a' := ?_) hps rfl (by kernel_rfl) rfl ?_ ?_ ?_
        rotate_left 2
        · intro w' hk; go_simp; try rfl
        · simp only [Act.put, List.setIfInBounds_toArray, List.set_cons_succ, List.set_cons_zero]; try rfl
        refine flowe_take 10 (v := ?_) (a' := ?_) hps rfl (by kernel_rfl) rfl ?_ ?_ ?_
        rotate_left 2
        · intro w' hk; have hc := HBK.out w' hk; go_simp; try rfl
        · simp only [Act.put, List.setIfInBounds_toArray, List.set_cons_succ, List.set_cons_zero]; try rfl
        refine flowe_take 11 (v := ?_) (a' := ?_) hps rfl (by kernel_rfl) rfl ?_ ?_ ?_
        rotate_left 2
        · intro w' hk; go_simp; try rfl
        · simp only [Act.put, List.setIfInBounds_toArray, List.set_cons_succ, List.set_cons_zero]; try rfl
        refine flowe_one 12 hps rfl (by kernel_rfl) rfl (wp_next (fun K hK => ?_))
        go_simp
        have kp := q4
        refine hK _ _ (flow_step kk ?_ ?_)
        · first | exact kp | exact Keep.refl _ _ | exact (Keep.refl _ _).alloc _
        clear kk hK; try clear kp
        intro kk
        refine flowe_done hps (by kernel_rfl) ?_
        have KK := Lib.hid kk
        clear kk s1 s2 s3 s4
        go_wp2
        exact ⟨⟨k + 1, by omega, by go_num, Q3.out, HK.out.trans KK.out⟩, by simp [intOf]; omega⟩
      · obtain rfl : k = b.length := by omega
        rw [List.take_length] at hA
        have HA := Lib.hid hA; have HK := Lib.hid hK
        clear hA hK
        go_wp2
        go_ret
        exact ⟨rfl, HA.out, (Keep.of_below B1.out).trans (HK.out.mono fun k _ e => by rw [e]; rfl)⟩
  · have hb0 : b = [] := List.eq_nil_of_length_eq_zero (by omega)
    subst hb0
    go_wp2
    go_loopw [9] (fun x wr => x = .int .i64 0 ∧ wr = w1) (fun _ _ => 0)
    case atStart => exact ⟨rfl, rfl⟩
    case round =>
      obtain ⟨rfl, rfl⟩ := hrel
      go_wp2
      go_ret
      exact ⟨rfl, by rw [lay_nil]; exact H1.out, Keep.of_below B1.out⟩
theorem rar_Store_bad (w : World) (p : Nat) (A : Ar) (v : Value) (h : ArR w p A v) (addr : Int) (a : Option Addr) (n c : Nat) (b : List UInt8) (hb : Bs w a n c b) (h0 : 0 ≤ addr) (h1 : addr ≤ 18446744073709551615) (hf : ¬ ((A.base : Int) ≤ addr ∧ addr - A.base + b.length ≤ A.b.length)) :
    Calls Try.prog 145 #[arP p, .int .u64 addr, .slice a n c] w fun e w' => e = .returned (.int .i64 2) ∧ Below w.heap.size w w' := by
  have hn := hb.len
  subst hn
  have hc := Sl.cap hb
  have hr := Sl.room hb
  have K := Lib.hid (rar_There_bad w p A v h addr (b.length : Nat) h0 h1 (by omega) (by omega) hf)
  clear h hb hf
  go_enter Try.func145, Try.ntmps145
  go_wp2_with fail
  refine K.out.mono ?_
  rintro e w1 ⟨rfl, b1⟩
  go_wp2
  go_ret
  exact ⟨rfl, b1⟩
section
variable {B : Nat} {w0 w : World} {l : List Ob} {i p : Nat} {A : Ar}
theorem rar_Store (h : St B w0 w l) (hi : l[i]? = some (RaT p A)) (addr : Int) (h0 : 0 ≤ addr) (h1 : addr ≤ 18446744073709551615) (a : Option Addr) (n c : Nat) (b : List UInt8) (hb : Bs w a n c b) (hd : ∀ v q, ArR w p A v → a = some q → 0 < b.length → ¬ v.ownBlock = some q.block) :
    Calls Try.prog 145 #[arP p, .int .u64 addr, .slice a n c] w fun e w' => e = .returned (.int .i64 (A.store addr b).1) ∧ St B w0 w' (l.set i (RaT p (A.store addr b).2)) := by
  obtain ⟨v, ha, hto⟩ := h.arTo hi
  unfold Ar.store
  split
  · rename_i ht
    refine (rar_Store_ok w p A v ha addr _ (Ar.there_at ht) a n c b hb (fun q => hd v q ha) (Ar.there_le ht rfl)).mono ?_
    rintro e w' ⟨rfl, h2, k2⟩
    exact ⟨rfl, hto w' _ v h2 (k2.mono fun _ _ h => .inr h) (.inl rfl)⟩
  · rename_i ht
    refine (rar_Store_bad w p A v ha addr a n c b hb h0 h1 (Ar.there_no ht)).mono ?_
    rintro e w' ⟨rfl, hb⟩
    exact ⟨rfl, hto w' _ v (ha.below hb) (Keep.of_below hb) (.inl rfl)⟩
theorem rar_Copy (h : St B w0 w l) (hi : l[i]? = some (RaT p A)) (to fr n : Int) (t0 : 0 ≤ to) (t1 : to ≤ 18446744073709551615) (h0 : 0 ≤ fr) (h1 : fr ≤ 18446744073709551615) (n0 : 0 ≤ n) (n1 : n ≤ 18446744073709551615) :
    Calls Try.prog 150 #[arP p, .int .u64 to, .int .u64 fr, .int .u64 n] w fun e w' => e = .returned (.int .i64 (A.copy to fr n).1) ∧ St B w0 w' (l.set i (RaT p (A.copy to fr n).2)) := by
  have K := Lib.hid (rar_Load h hi fr n h0 h1 n0 n1)
  have hld : A.load fr n = (if A.there fr n then (0, (A.b.drop (A.at' fr)).take n.toNat) else (2, [])) := rfl
  by_cases hF : A.there fr n = true
  · rw [if_pos hF] at hld
    have hlen : ((A.b.drop (A.at' fr)).take n.toNat).length = n.toNat := by have := Ar.there_le (m := n.toNat) hF (by omega); simp; omega
    have hst : A.copy to fr n = A.store to ((A.b.drop (A.at' fr)).take n.toNat) := by
      unfold Ar.copy Ar.store
      rw [hlen, show ((n.toNat : Nat) : Int) = n by omega]
      by_cases hT : A.there to n = true
      · rw [if_pos ⟨hF, hT⟩, if_pos hT]
      · rw [if_neg (fun h => hT h.2), if_neg hT]
    rw [hst]
    rw [hld] at K
    have HI := Lib.hid hi
    generalize (A.b.drop (A.at' fr)).take n.toNat = pc at *
    clear h hld hlen hst hF hi
    go_enter Try.func150, Try.ntmps150
    go_wp2_with fail
    refine K.out.mono ?_
    rintro e w1 ⟨v, rfl, h1⟩
    obtain ⟨a, c, rfl, h2⟩ := h1.ownBs
    have hb := h2.bsO (i := 0) rfl
    have hd : ∀ v q, ArR w1 p A v → a = some q → 0 < pc.length → ¬ v.ownBlock = some q.block := by
      obtain ⟨F, G, f1, g1, hfg⟩ := h2.two (i := 0) (j := i + 1) rfl (by rw [List.getElem?_cons_succ]; exact HI.out) (by omega)
      obtain ⟨v0, g1, g2, _⟩ := g1
      intro v q hv hq h0 he
      have : v = v0 := by
        have r1 := hv.row.cell 2; have r2 := g1.row.cell 2
        rw [r1] at r2; simpa using r2
      subst this
      exact hfg _ (f1.2.1 q hq h0) (g2 _ (.inr he))
    have K2 := Lib.hid (rar_Store h2.tail HI.out to t0 t1 a _ c pc hb hd)
    clear h1 h2 hb hd
    go_wp2_with fail
    refine K2.out.mono ?_
    rintro e w2 ⟨rfl, h3⟩
    have H3 := Lib.hid h3
    clear h3
    go_wp2
    go_ret
    exact ⟨rfl, H3.out⟩
  · rw [if_neg hF] at hld
    have hst : A.copy to fr n = (2, A) := by unfold Ar.copy; rw [if_neg (fun h => hF h.1)]
    rw [hst]
    rw [hld] at K
    have hset : l.set i (RaT p A) = l := by
      obtain ⟨hlt, e⟩ := List.getElem?_eq_some_iff.1 hi
      rw [← e]; exact List.set_getElem_self hlt
    have HS := Lib.hid hset
    clear h hi hld hst hF hset
    go_enter Try.func150, Try.ntmps150
    go_wp2_with fail
    refine K.out.mono ?_
    rintro e w1 ⟨v, rfl, h1⟩
    have H1 := Lib.hid h1.tail
    clear h1
    go_wp2
    go_ret
    exact ⟨rfl, by rw [HS.out]; exact H1.out⟩
theorem rar_Grow (h : St B w0 w l) (hi : l[i]? = some (RaT p A)) (n : Int) (hn1 : -9223372036854775808 ≤ n) (hn2 : n ≤ 9223372036854775807) :
    Calls Try.prog 140 #[arP p, .int .i64 n] w fun e w' => e = .returned (.int .i64 (A.grow n).1) ∧ St B w0 w' (l.set i (RaT p (A.grow n).2)) := by
  obtain ⟨v, ha, hto⟩ := h.arTo hi
  unfold Ar.grow
  split
  · rename_i ht
    have HT := Lib.hid (hto w _ v ha (Keep.refl _ _) (.inl rfl))
    clear h hi ha hto
    go_enter Try.func140, Try.ntmps140
    go_wp2
    go_ret
    exact ⟨rfl, HT.out⟩
  · rename_i ht
    obtain ⟨a, c, rfl, hB, hg, hcr⟩ := ha.form
    have q1 : w.cell? ⟨p, 1, none⟩ = some (.int .i64 A.cap) := ha.row.cell 1
    have q2 : w.cell? ⟨p, 2, none⟩ = some (.slice a A.b.length c) := ha.row.cell 2
    have hc1 := ha.hcap; have hc2 := ha.hlen
    have hs1 : IntKind.i64.wrap ((A.cap : Int) - (A.b.length : Int)) = (A.cap : Int) - (A.b.length : Int) := IntWalk.i64_in _ (by omega)
    split
    · rename_i hc
      have hd : decide ((A.cap : Int) - (A.b.length : Int) < n) = true := by simp; omega
      have HT := Lib.hid (fun nq => hto (w.drewN nq) _ _ (ha.drewN nq) ((Keep.refl _ _).drewN nq) (.inl rfl))
      clear h hi ha hto hB hg
      go_enter Try.func140, Try.ntmps140
      go_wp2
      go_quiet (fail)
      clear hs1 hd
      go_wp2
      go_ret
      exact ⟨rfl, HT.out nq⟩
    · rename_i hc
      have hd : decide ((A.cap : Int) - (A.b.length : Int) < n) = false := by simp; omega
      obtain ⟨m, rfl⟩ := Int.eq_ofNat_of_zero_le (show 0 ≤ n by omega)
      have H := Lib.hid ha; have HTO := Lib.hid hto
      clear h hi ha hto hB hg
      go_enter Try.func140, Try.ntmps140
      go_wp2
      go_quiet (fail)
      clear hs1 hd
      have H1 := H.out.drewN nq
      have k1 := (Keep.refl (arF p (.slice a A.b.length c)) w).drewN nq
      have r1 := H1.row
      have hap := H1.apart (by decide)
      have own0 := H1.own
      have HAP := Lib.hid hap
      clear hap H1
      go_wp2_with (at_builtin; go_must (refine app_zeros_own rfl (.tmp 23) (.tmp 24) 31 3 rfl 0 5 (.int .u8 0) 1 Try.underlying31 Try.underlying3 info_u8 rfl rfl (by decide) (.slice a A.b.length c) _ _ rfl own0 _ _ m rfl rfl (by omega) (Nat.zero_le _) ?_; intro v1 w1 own1 kp1 hbl1; obtain ⟨a1, c1, rfl, _, hs1⟩ := Sl.of_owned own1; have r2 := r1.keep kp1 HAP.out; have f2 := r2.frozen 2; have c2 : w1.cell? ⟨p, 2, none⟩ = some (.slice a A.b.length c) := r2.cell 2))
      go_ret
      have r3 := r2.set 2 (.slice a1 (A.b.length + m) c1)
      have k2 := (k1.trans (kp1.mono fun k _ hk => .inr hk)).setCell (p := ⟨p, 2, none⟩) (.inl (.inl rfl)) (.slice a1 (A.b.length + m) c1)
      have k3 := (Keep.refl (· = p) w1).setCell (p := ⟨p, 2, none⟩) (.inl rfl) (.slice a1 (A.b.length + m) c1)
      have hne : ∀ g, (Value.slice a1 (A.b.length + m) c1).ownBlock = some g → ¬ g = p := by
        rintro g hg rfl
        rcases hbl1 with h | h
        · rw [h] at hg; exact HAP.out hg
        · rw [h] at hg
          have : g = (w.drewN nq).heap.size := by simpa using hg.symm
          have := r1.lt
          omega
      have hz : (Int.toNat (m : Int)) = m := by omega
      rw [hz]
      exact ⟨rfl, HTO.out _ _ _ ⟨r3, ownsRow_map (own_kept own1 k3 hne) (by simp) (by simp [bv]), H.out.hbase, H.out.hmod, H.out.hcap, H.out.hmin, by simp; omega⟩ k2 hbl1⟩
theorem rar_Widen (h : St B w0 w l) (hi : l[i]? = some (RaT p A)) (n : Int) :
    Calls Try.prog 142 #[arP p, .int .i64 n] w fun e w' => e = .returned (.int .i64 (A.widen n).1) ∧ St B w0 w' (l.set i (RaT p (A.widen n).2)) := by
  obtain ⟨v, ha, hto⟩ := h.arTo hi
  have q1 : w.cell? ⟨p, 1, none⟩ = some (.int .i64 A.cap) := ha.row.cell 1
  have f1 := ha.row.frozen 1
  unfold Ar.widen
  split
  · rename_i ht
    obtain ⟨t1, t2⟩ := ht
    have hap := ha.apart (by decide)
    obtain ⟨m, rfl⟩ := Int.eq_ofNat_of_zero_le (show 0 ≤ n by omega)
    have H := Lib.hid ha; have HTO := Lib.hid hto; have HAP := Lib.hid hap
    clear h hi ha hto hap
    go_enter Try.func142, Try.ntmps142
    go_wp2
    go_ret
    have r := H.out.row.set 1 (.int .i64 m)
    have ks := (Keep.refl (· = p) w).setCell (p := ⟨p, 1, none⟩) (.inl rfl) (.int .i64 m)
    have h1 := H.out.hmin; have h2 := H.out.hlen
    have hz : (Int.toNat (m : Int)) = m := by omega
    rw [hz]
    exact ⟨rfl, HTO.out _ _ v ⟨r, own_kept H.out.own ks fun g hg e => HAP.out (e ▸ hg), H.out.hbase, H.out.hmod, by show m ≤ 16384; omega, by show 1024 ≤ m; omega, by show A.b.length ≤ m; omega⟩ (ks.mono fun k _ e => .inl e) (.inl rfl)⟩
  · rename_i ht
    have HT := Lib.hid (hto w _ v ha (Keep.refl _ _) (.inl rfl))
    clear h hi ha hto
    by_cases c1 : n < A.cap
    · clear ht
      go_enter Try.func142, Try.ntmps142
      go_wp2
      go_ret
      exact ⟨rfl, HT.out⟩
    · have c2 : 16384 < n := by omega
      clear ht
      go_enter Try.func142, Try.ntmps142
      go_wp2
      go_ret
      exact ⟨rfl, HT.out⟩
set_option maxHeartbeats 2000000 in
theorem rar_Fill (h : St B w0 w l) (hi : l[i]? = some (RaT p A)) (addr n : Int) (x : UInt8) (h0 : 0 ≤ addr) (h1 : addr ≤ 18446744073709551615) (n0 : 0 ≤ n) (n1 : n ≤ 18446744073709551615) :
    Calls Try.prog 151 #[arP p, .int .u64 addr, .int .u64 n, .int .u8 (x.toNat : Nat)] w fun e w' => e = .returned (.int .i64 (A.fill addr n x).1) ∧ St B w0 w' (l.set i (RaT p (A.fill addr n x).2)) := by
  have K := Lib.hid (rar_Load h hi addr n h0 h1 n0 n1)
  have hld : A.load addr n = (if A.there addr n then (0, (A.b.drop (A.at' addr)).take n.toNat) else (2, [])) := rfl
  have hx := x.toNat_lt
  by_cases hF : A.there addr n = true
  · rw [if_pos hF] at hld
    have hle := Ar.there_le (m := n.toNat) hF (by omega)
    have hlen : ((A.b.drop (A.at' addr)).take n.toNat).length = n.toNat := by simp; omega
    have hlm : n.toNat ≤ 16384 := by
      obtain ⟨v, ha⟩ := h.ar hi
      have := ha.hlen; have := ha.hcap; omega
    have hst : A.fill addr n x = A.store addr (List.replicate n.toNat x) := by
      unfold Ar.fill Ar.store
      rw [List.length_replicate, show ((n.toNat : Nat) : Int) = n by omega]
    rw [hst]
    rw [hld] at K
    have HI := Lib.hid hi; have HL := Lib.hid hlen
    obtain ⟨m, hm⟩ : ∃ m, m = n.toNat := ⟨_, rfl⟩
    rw [← hm] at hlm hle ⊢
    rw [← hm] at HL K
    generalize (A.b.drop (A.at' addr)).take m = pc at *
    clear hm h hld hlen hst hF hi
    go_enter Try.func151, Try.ntmps151
    go_wp2_with fail
    refine K.out.mono ?_
    rintro e w1 ⟨v, rfl, h1⟩
    have ho := h1.own (i := 0) rfl
    obtain ⟨a, c, rfl, _, hs⟩ := Sl.of_owned ho
    have hcc := Sl.cap hs; have hcr := Sl.room hs
    have hpl := HL.out
    rw [hpl] at hcc ho
    have hval : ∀ u : Nat, Value.slice a pc.length u = Value.slice a m u := fun u => by rw [hpl]
    rw [hval] at h1 ⊢
    have H1 := Lib.hid h1
    clear h1 ho hs hval hpl
    go_wp2
    go_loopw [11] (fun y wr => ∃ k : Nat, k ≤ m ∧ y = .int .i64 k ∧ St B w0 wr (OwO 5 1 (.slice a m c) m ((List.replicate k x ++ pc.drop k).map bv) :: l)) (fun y _ => m - (intOf y).toNat)
    case atStart =>
      refine ⟨0, Nat.zero_le _, rfl, ?_⟩
      have := H1.out
      rw [List.replicate_zero, List.nil_append, List.drop_zero]
      have e := HL.out
      unfold OwB at this
      rw [e] at this
      exact this
    case round =>
      obtain ⟨k, hk, rfl, hS⟩ := hrel
      by_cases hlt : k < m
      · have hpl := HL.out
        have ho := hS.own (i := 0) rfl
        obtain ⟨g, cap, cur, e1, _⟩ := own_some ho (by simp; omega)
        injection e1 with e1 e2 e3
        subst e1
        have q1 : wr.cell? ⟨g, k, none⟩ = some (bv (pc[k]'(by omega))) := by
          rw [ho.cellAt k (by omega)]
          simp [List.getElem?_append_right, hlt, hpl]
        have q2 := ho.frozenAt k
        obtain ⟨F, f1, f2, f3, f4⟩ := hS.at (i := 0) rfl
        have hnew : (List.replicate k x ++ pc.drop k).set k x = List.replicate (k + 1) x ++ pc.drop (k + 1) := by
          rw [List.set_append_right _ _ (by simp), List.length_replicate, Nat.sub_self, List.drop_eq_getElem_cons (by omega), List.set_cons_zero, List.replicate_succ', List.append_assoc]; rfl
        have hS2 := f4 (wr.setCell ⟨g, k, none⟩ (bv x)) F (OwO 5 1 (.slice (some ⟨g, 0, none⟩) m c) m ((List.replicate (k + 1) x ++ pc.drop (k + 1)).map bv)) rfl ((Keep.refl _ _).setCell (.inl (f1.2.1 g rfl)) _)
          ⟨by rw [← hnew, List.map_set]; exact (f1.1.stored k (bv x)).1, f1.2.1, fun y hy => by simpa using f2 y hy⟩ (fun y hy => .inl hy)
        have HS := Lib.hid hS2
        obtain ⟨u, qu⟩ : ∃ u, wr.cell? ⟨g, k, none⟩ = some u := ⟨_, q1⟩
        clear q1
        clear hS ho f1 f2 f3 f4 hS2 hnew e3 hpl
        go_wp2
        exact ⟨⟨k + 1, by omega, by go_num, HS.out⟩, by simp [intOf]; omega⟩
      · obtain rfl : k = m := by omega
        have hdr : pc.drop k = [] := List.drop_of_length_le (by rw [HL.out]; exact Nat.le_refl _)
        rw [hdr, List.append_nil] at hS
        have hS3 : St B w0 wr (OwO 5 1 (.slice a k c) (List.replicate k x).length ((List.replicate k x).map bv) :: l) := by rw [List.length_replicate]; exact hS
        obtain ⟨a', c', e, h2⟩ := hS3.ownBs
        injection e with e1 e2 e3
        subst e1; subst e3
        rw [List.length_replicate] at h2
        have hb := h2.bsO (i := 0) rfl
        have hd : ∀ v q, ArR wr p A v → a = some q → 0 < (List.replicate k x).length → ¬ v.ownBlock = some q.block := by
          obtain ⟨F, G, f1, g1, hfg⟩ := h2.two (i := 0) (j := i + 1) rfl (by rw [List.getElem?_cons_succ]; exact HI.out) (by omega)
          obtain ⟨v0, g1, g2, _⟩ := g1
          intro v q hv hq h0 he
          have : v = v0 := by
            have r1 := hv.row.cell 2; have r2 := g1.row.cell 2
            rw [r1] at r2; simpa using r2
          subst this
          exact hfg _ (f1.2.1 q hq h0) (g2 _ (.inr he))
        have K2 := Lib.hid (rar_Store h2.tail HI.out addr h0 h1 a _ c _ hb hd)
        clear hS hS3 h2 hb hd hdr e2
        go_wp2_with fail
        refine K2.out.mono ?_
        rintro e w2 ⟨rfl, h3⟩
        have H3 := Lib.hid h3
        clear h3
        go_wp2
        go_ret
        exact ⟨rfl, H3.out⟩
  · rw [if_neg hF] at hld
    have hst : A.fill addr n x = (2, A) := by unfold Ar.fill; rw [if_neg hF]
    rw [hst]
    rw [hld] at K
    have hset : l.set i (RaT p A) = l := by
      obtain ⟨hlt, e⟩ := List.getElem?_eq_some_iff.1 hi
      rw [← e]; exact List.set_getElem_self hlt
    have HS := Lib.hid hset
    clear h hi hld hst hF hset
    go_enter Try.func151, Try.ntmps151
    go_wp2_with fail
    refine K.out.mono ?_
    rintro e w1 ⟨v, rfl, h1⟩
    have H1 := Lib.hid h1.tail
    clear h1
    go_wp2
    go_ret
    exact ⟨rfl, by rw [HS.out]; exact H1.out⟩
end
end Go.Proofs.Ytjijniillehfoaa
