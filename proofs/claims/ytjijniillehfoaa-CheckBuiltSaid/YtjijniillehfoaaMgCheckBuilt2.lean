/- Texts of the proof of 'CheckBuilt', part 2: words on memory, contracts of functions, plain laws. No condition. -/
import Derived.Test.YtjijniillehfoaaMgCheckBuilt1
import Derived.Shelf.Small.Bits
import Derived.Shelf.Strconv.Itoa0
import Derived.Test.YtjijniillehfoaaProg
/- Bytes of one's own beside whatever else there is: rules for walks. -/
namespace Go.Own
open Go Go.RowKit
/-- 'b[i:]', whatever the world. -/
theorem piece_fromA {P : Program} {t e : TypeId} (ht : P.underlying t = some (.slice e)) (he : (P.info? e).map (·.size) = some 1) {w : World} {a : Option Addr} {n c : Nat} {l : List UInt8} (h : Bs w a n c l) (k : IntKind) (I : Int) (i : Nat) (hI : I = i) (hi : i ≤ n) :
    ∃ a' c', (∀ W : World, (Instr.sliceAt t (.slice a n c) (some (.int k I)) none none).run P W = .ok (.slice a' (n - i) c') W) ∧ ∀ w, Bs w a n c l → Bs w a' (n - i) c' (l.drop i) := by
  subst hI
  have hc := Sl.cap h; have hr := Sl.room h
  refine ⟨if c = i then a else a.map (·.add i), c - i, fun W => ?_, fun w h => ?_⟩
  · rw [run_sliceAt_slice W t _ _ _ _ (by rw [elem_eq ht]; exact ht), run_slice_l W t a n c (by rw [elem_eq ht]; exact ht) k i (by omega) (by omega), elem_eq ht, run_size1 he]
    simp [Result.andThen, sliced]
  · have hl := h.len
    have hx := h.cutIf i n hi (Nat.le_refl _)
    rw [List.take_of_length_le (by omega)] at hx
    exact hx
/-- 'b[i:j]', whatever the world. -/
theorem pieceA {P : Program} {t e : TypeId} (ht : P.underlying t = some (.slice e)) (he : (P.info? e).map (·.size) = some 1) {w : World} {a : Option Addr} {n c : Nat} {l : List UInt8} (h : Bs w a n c l) (k k' : IntKind) (I J : Int) (i j : Nat) (hI : I = i) (hJ : J = j) (hij : i ≤ j) (hj : j ≤ n) :
    ∃ a' c', (∀ W : World, (Instr.sliceAt t (.slice a n c) (some (.int k I)) (some (.int k' J)) none).run P W = .ok (.slice a' (j - i) c') W) ∧ ∀ w, Bs w a n c l → Bs w a' (j - i) c' ((l.take j).drop i) := by
  subst hI; subst hJ
  have hc := Sl.cap h; have hr := Sl.room h
  refine ⟨_, _, fun W => ?_, fun w h => h.cutIf i j hij hj⟩
  rw [run_sliceAt_slice W t _ _ _ _ (by rw [elem_eq ht]; exact ht), run_slice_lh W t a n c (by rw [elem_eq ht]; exact ht) k k' i j (by omega) (by omega) (by omega), elem_eq ht, run_size1 he]
  simp [Result.andThen, sliced]
/-- 'b[:j]', whatever the world. -/
theorem piece_toA {P : Program} {t e : TypeId} (ht : P.underlying t = some (.slice e)) (he : (P.info? e).map (·.size) = some 1) {w : World} {a : Option Addr} {n c : Nat} {l : List UInt8} (h : Bs w a n c l) (k : IntKind) (J : Int) (j : Nat) (hJ : J = j) (hj : j ≤ n) :
    ∃ a' c', (∀ W : World, (Instr.sliceAt t (.slice a n c) none (some (.int k J)) none).run P W = .ok (.slice a' j c') W) ∧ ∀ w, Bs w a n c l → Bs w a' j c' (l.take j) := by
  subst hJ
  have hc := Sl.cap h; have hr := Sl.room h
  refine ⟨if c = 0 then a else a.map (·.add 0), c, fun W => ?_, fun w h => ?_⟩
  · rw [run_sliceAt_slice W t _ _ _ _ (by rw [elem_eq ht]; exact ht), run_slice_h W t a n c (by rw [elem_eq ht]; exact ht) k j (by omega) (by omega), elem_eq ht, run_size1 he]
    simp [Result.andThen, sliced]
  · have hx := h.cutIf 0 j (Nat.zero_le _) hj
    simp only [Nat.sub_zero, List.drop_zero] at hx
    exact hx
section
variable {B : Nat} {w0 w : World} {l : List Ob} {i : Nat}
theorem St.ownTo {e : TypeId} {z : Nat} {v : Value} {n : Nat} {cs : List Value} (h : St B w0 w l) (hi : l[i]? = some (OwO e z v n cs)) (w' : World) (v' : Value) (n' : Nat) (cs' : List Value)
    (hp : w'.ownsRow 0 e z v' n' cs') (k : Keep (fun k => v.ownBlock = some k) w w') (hv : v'.ownBlock = v.ownBlock ∨ v'.ownBlock = some w.heap.size) : St B w0 w' (l.set i (OwO e z v' n' cs')) := by
  obtain ⟨F, ⟨h1, h2, h3⟩, _, _, h4⟩ := h.at hi
  refine h4 w' (fun x => v'.ownBlock = some x) _ rfl (k.mono fun x _ hx => h2 x hx) ⟨hp, fun _ h => h, fun x hx => (own_block_lt hp hx).2⟩ fun x hx => ?_
  rcases hv with hv | hv
  · exact .inl (h2 _ (by rw [← hv]; exact hx))
  · rw [hv] at hx; cases hx; exact .inr (Nat.le_refl _)
theorem St.bsOwn {e : TypeId} {v : Value} {n : Nat} {b : List UInt8} (h : St B w0 w l) (hi : l[i]? = some (OwO e 1 v n (b.map bv))) : ∃ a c, v = .slice a n c ∧ Bs w a n c b := by
  obtain ⟨a, c, e1, _, hb⟩ := Sl.of_owned (h.own hi)
  exact ⟨a, c, e1, hb⟩
theorem set_same {P : Ob} (hi : l[i]? = some P) : l.set i P = l := by
  obtain ⟨hlt, e⟩ := List.getElem?_eq_some_iff.1 hi
  rw [← e]; exact List.set_getElem_self hlt
end
end Go.Own
namespace Go.Proofs.Ytjijniillehfoaa
open Go Go.RowKit Go.Own
set_option linter.unusedVariables false
section
variable {B : Nat} {w0 w : World} {l : List Ob}
/-- 'make([]byte, n)'. -/
theorem mk_st (h : St B w0 w l) (m : Int) (n : Nat) (hm : m = n) (hn : n ≤ 281474976710656) :
    ∃ g W, (Instr.makeSlice 31 (.int .i64 m) (.int .i64 m)).run Try.prog w = .ok (.slice (some ⟨g, 0, none⟩) n n) W ∧ St B w0 W (OwB (.slice (some ⟨g, 0, none⟩) n n) (List.replicate n 0) :: l) := by
  refine ⟨_, _, mkBytes w m n hm hn, ?_⟩
  have ho : (w.alloc (.cells ((List.replicate n (0 : UInt8)).map bv).toArray 5 (0, 0))).ownsRow w.heap.size 5 1 (.slice (some ⟨w.heap.size, 0, none⟩) n n) n ((List.replicate n (0 : UInt8)).map bv) :=
    ⟨by simp, .inr ⟨w.heap.size, n, _, rfl, Nat.le_refl _, by show (w.heap.push _)[w.heap.size]? = _; simp, Nat.le_refl _, Nat.le_trans hn (by decide), by simp, List.take_of_length_le (by simp)⟩⟩
  have hs := h.addOwn ((Below.refl _ _).alloc (Nat.le_refl _) (.cells ((List.replicate n (0 : UInt8)).map bv).toArray 5 (0, 0))) ho
  unfold OwB
  rw [List.length_replicate]
  exact hs
section
variable {v : Value} {b : List UInt8}
theorem app_st_at {o : Oper} {a : Act} {K : Act → World → Prop} {Q : Exit → Act → World → Prop} (s x : Operand)
    (ho : o.op = .call { callee := .builtin .append, args := #[s, x], argTypes := #[31, 31] })
    (h : St B w0 w l) (i : Nat) (hi : l[i]? = some (OwB v b)) (hs : a.eval s = v) (ad : Option Addr) (m c : Nat) (b2 : List UInt8) (hx : a.eval x = .slice ad m c) (hb : Bs w ad m c b2)
    (hle : b.length + m ≤ 140737488355328) (hk : ∀ v' w', St B w0 w' (l.set i (OwB v' (b ++ b2))) → K (a.put o.dst v') w') : o.wp Try.prog a w K Q := by
  have hm := hb.len
  refine app_at s x 31 ho 0 5 (.int .u8 0) 1 1 Try.underlying31 info_u8 rfl (by decide) v b.length (b.map bv) hs (h.own hi) ad m c (b2.map bv) hx hb (bv_one _) (by omega) (by omega) (Nat.zero_le _) fun v' w' h1 h2 h3 => hk v' w' ?_
  have := h.ownTo hi w' v' _ _ h1 h2 h3
  unfold OwB
  rw [List.length_append, List.map_append, ← hm]; exact this
theorem app_st {ops : Array Oper} {rest : List Oper} {o : Oper} {a : Act} {Q : Exit → Act → World → Prop} (hgd : Region.wanted o (yielded ops a.tmps) = true) (s x : Operand)
    (ho : o.op = .call { callee := .builtin .append, args := #[s, x], argTypes := #[31, 31] })
    (h : St B w0 w l) (i : Nat) (hi : l[i]? = some (OwB v b)) (hs : a.eval s = v) (ad : Option Addr) (m c : Nat) (b2 : List UInt8) (hx : a.eval x = .slice ad m c) (hb : Bs w ad m c b2)
    (hle : b.length + m ≤ 140737488355328) (hk : ∀ v' w', St B w0 w' (l.set i (OwB v' (b ++ b2))) → wpList Try.prog ops Q rest (a.put o.dst v') w') : wpList Try.prog ops Q (o :: rest) a w :=
  at_wanted hgd fun _ hK => app_st_at s x ho h i hi hs ad m c b2 hx hb hle fun v' w' h1 => hK _ _ (hk v' w' h1)
/-- 'append([]byte{}, b...)'. -/
theorem app_st_new_at {o : Oper} {a : Act} {K : Act → World → Prop} {Q : Exit → Act → World → Prop} (s x : Operand)
    (ho : o.op = .call { callee := .builtin .append, args := #[s, x], argTypes := #[31, 31] })
    (h : St B w0 w l) (hs : a.eval s = .slice (some ⟨w.heap.size, 0, none⟩) 0 0) (ad : Option Addr) (m c : Nat) (b2 : List UInt8) (hx : a.eval x = .slice ad m c) (hb : Bs w ad m c b2)
    (hle : m ≤ 140737488355328) (hk : ∀ v' w', St B w0 w' (OwB v' b2 :: l) → K (a.put o.dst v') w') : o.wp Try.prog a (w.alloc (.cells #[] 5 (0, 0))) K Q := by
  have h1 : St B w0 (w.alloc (.cells #[] 5 (0, 0))) (OwB (.slice (some ⟨w.heap.size, 0, none⟩) 0 0) [] :: l) := h.addOwn ((Below.refl _ _).alloc (Nat.le_refl _) _) (own_empty w 5 1)
  exact app_st_at s x ho h1 0 rfl hs ad m c b2 hx (hb.below ((Below.refl _ _).alloc (Nat.le_refl _) _)) (by simpa using hle) fun v' w' h2 => hk v' w' h2
theorem app_st_new {ops : Array Oper} {rest : List Oper} {o : Oper} {a : Act} {Q : Exit → Act → World → Prop} (hgd : Region.wanted o (yielded ops a.tmps) = true) (s x : Operand)
    (ho : o.op = .call { callee := .builtin .append, args := #[s, x], argTypes := #[31, 31] })
    (h : St B w0 w l) (hs : a.eval s = .slice (some ⟨w.heap.size, 0, none⟩) 0 0) (ad : Option Addr) (m c : Nat) (b2 : List UInt8) (hx : a.eval x = .slice ad m c) (hb : Bs w ad m c b2)
    (hle : m ≤ 140737488355328) (hk : ∀ v' w', St B w0 w' (OwB v' b2 :: l) → wpList Try.prog ops Q rest (a.put o.dst v') w') : wpList Try.prog ops Q (o :: rest) a (w.alloc (.cells #[] 5 (0, 0))) :=
  at_wanted hgd fun _ hK => app_st_new_at s x ho h hs ad m c b2 hx hb hle fun v' w' h1 => hK _ _ (hk v' w' h1)
/-- 'copy(to, b)', 'to' a row of one's own. -/
theorem copy_st {ops : Array Oper} {rest : List Oper} {o : Oper} {a : Act} {Q : Exit → Act → World → Prop} (hgd : o.guard = none) (x y : Operand)
    (ho : o.op = .call { callee := .builtin .copy, args := #[x, y], argTypes := #[31, 31] })
    (h : St B w0 w l) (i : Nat) (hi : l[i]? = some (OwB v b)) (hx : a.eval x = v) (ad : Option Addr) (m c : Nat) (b2 : List UInt8) (hy : a.eval y = .slice ad m c) (hb : Bs w ad m c b2) (h0 : 0 < m) (hb0 : 0 < b.length) (k : Nat) (hk0 : k = min m b.length)
    (hk : ∀ w', St B w0 w' (l.set i (OwB v (b2.take k ++ b.drop k))) → wpList Try.prog ops Q rest (a.put o.dst (.int .i64 k)) w') : wpList Try.prog ops Q (o :: rest) a w := by
  have hbl := hb.len
  obtain ⟨b0, o0, rfl, _⟩ := Sl.some hb (by omega) (by decide)
  have hlk : ((b2.take k).map bv).length = k := by rw [List.length_map, List.length_take]; omega
  have hown := h.own hi
  obtain ⟨g, cap, _, rfl, _⟩ := own_some hown (by rw [List.length_map]; exact hb0)
  obtain ⟨cur, hg, hc, h1⟩ := own_splice hown 0 ((b2.take k).map bv) (by omega)
  have hkp := setRow_keep (cur.toList.take 0 ++ (b2.take k).map bv ++ cur.toList.drop (0 + ((b2.take k).map bv).length)).toArray hg
  have hrun := run_copy_row (P := Try.prog) w 31 31 o.type 5 g 0 b.length cap ⟨b0, o0, none⟩ m c cur 5 ((b2.take k).map bv) Try.underlying31 (by kernel_rfl) hg (by rw [hlk]; exact hk0) (fun j v hj => by
    have hj2 : (b2.map bv)[j]? = some v := by
      rw [List.map_take, List.getElem?_take] at hj
      split at hj
      · exact hj
      · cases hj
    obtain ⟨b1, o1, e1, hc1⟩ := Sl.cells hb j v hj2
    cases e1
    rw [add_none']; exact hc1) (by omega) (bv_one _)
  have hst := hk _ (by
    have := h.ownTo hi _ _ _ _ h1 (hkp.mono fun x _ hx => by rw [hx]; rfl) (.inl rfl)
    rw [List.take_zero, List.nil_append, hlk, Nat.zero_add] at this
    unfold OwB
    rw [List.map_append, List.map_drop, List.length_append, List.length_take, List.length_drop, show min k b2.length + (b.length - k) = b.length by omega]
    exact this)
  refine wpList_plain hgd fun K hK => ?_
  unfold Oper.wp execOp
  simp only [ho, resolve, invoke, builtin, Sem.run_bind, Sem.run_pure, Result.andThen_ok, List.map_toArray, List.map_cons, List.map_nil, hx, hy, hrun]
  refine hK _ _ ?_
  have hkm : min k b2.length = k := by omega
  simpa [goInt, hlk, hkm] using hst
end
end
end Go.Proofs.Ytjijniillehfoaa

/- Variables of a struct type, lists of structs, beside whatever else there is: rules for walks. -/
namespace Go.Own
open Go Go.RowKit
theorem results_row2 {P : Program} {fn : Func} {p u : Tmp} {ty : TypeId} (h : fn.results = #[.cell p ty, .tmp u]) (tmps : Array Value) (w : World) (g : Nat) (t : TypeId) (cs : List Value) (d : TypeDesc)
    (hp : tmps.getD p undef = .pointer (some ⟨g, 0, none⟩)) (hg : Row w g t cs)
    (hu : P.underlying ty = some d) (hd : (match d with | .struct _ | .array _ _ => true | _ => false) = true) (hi : (P.info? ty).map (·.size) = some cs.length) :
    (results fn tmps).run P w = .ok (.tuple #[.agg cs.toArray, tmps.getD u undef]) w := by
  have hp' : tmps[p]?.getD undef = .pointer (some ⟨g, 0, none⟩) := by simpa using hp
  simp [results, h, hp', asAddr, run_loadVar_row w g t ty cs.toArray (0, 0) d hg hu hd (by simpa using hi)]
section
variable {B : Nat} {w0 w : World} {l : List Ob} {i : Nat} {g : Nat} {e : TypeId} {cs : List Value}
theorem St.rowTo (h : St B w0 w l) (hi : l[i]? = some (RowO g e cs)) (w' : World) (cs' : List Value) (hp : Row w' g e cs') (k : Keep (· = g) w w') : St B w0 w' (l.set i (RowO g e cs')) := by
  obtain ⟨F, ⟨h1, h2, h3⟩, _, _, h4⟩ := h.at hi
  exact h4 w' (fun x => x = g) _ rfl (k.mono fun x _ hx => by rw [hx]; exact h2) ⟨hp, rfl, fun x hx => by rw [hx]; exact hp.lt⟩ fun x hx => .inl (by rw [hx]; exact h2)
section
variable {P : Program} {ops : Array Oper} {rest : List Oper} {o : Oper} {a : Act} {Q : Exit → Act → World → Prop}
theorem alloc_st (h : St B w0 w l) (hgd : o.guard = none) (t : TypeId) (ho : o.op = .alloc t) (z : Value) (s b : Nat) (hi : Info P t z s b) (cs : List Value) (hc : z.cells = cs.toArray)
    (hk : ∀ g w', St B w0 w' (RowO g t cs :: l) → wpList P ops Q rest (a.put o.dst (.pointer (some ⟨g, 0, none⟩))) w') : wpList P ops Q (o :: rest) a w :=
  alloc_row hgd t ho z s b hi cs hc (hk _ _ (h.addRow t cs))
theorem store_st (h : St B w0 w l) (i : Nat) {g : Nat} {e : TypeId} {old : List Value} (hi : l[i]? = some (RowO g e old)) (hgd : o.guard = none) (t : TypeId) (x y : Operand) (ho : o.op = .store t x y)
    (hx : a.eval x = .pointer (some ⟨g, 0, none⟩)) (cs : List Value) (hy : a.eval y = .agg cs.toArray) (hs : (P.info? t).map (·.size) = some cs.length) (hl : old.length = cs.length)
    (h1 : ∀ u ∈ cs, u.oneCell' = true) (hk : ∀ w', St B w0 w' (l.set i (RowO g e cs)) → wpList P ops Q rest (a.put o.dst undef) w') : wpList P ops Q (o :: rest) a w :=
  store_row hgd t x y ho g hx cs hy e old (h.row hi) hs hl h1 fun w' hr k => hk w' (h.rowTo hi w' cs hr k)
theorem load_st (h : St B w0 w l) (i : Nat) {g : Nat} {e : TypeId} {cs : List Value} (hi : l[i]? = some (RowO g e cs)) (hgd : o.guard = none) (t : TypeId) (x : Operand) (ho : o.op = .load t x)
    (hx : a.eval x = .pointer (some ⟨g, 0, none⟩)) (d : TypeDesc) (hu : P.underlying t = some d) (hd : (match d with | .struct _ | .array _ _ => true | _ => false) = true) (hs : (P.info? t).map (·.size) = some cs.length)
    (hk : wpList P ops Q rest (a.put o.dst (.agg cs.toArray)) w) : wpList P ops Q (o :: rest) a w :=
  load_row hgd t x ho g hx e cs d (h.row hi) hu hd hs hk
end
end
/-- A block's cells. -/
def blC (x : Blk) : List Value := [.int .i64 x.off, .int .i64 x.size, .bool x.used]
theorem blC_len (x : Blk) : (blC x).length = 3 := rfl
theorem blC_one (x : Blk) : ∀ u ∈ blC x, u.oneCell' = true := by
  intro u hu
  simp only [blC, List.mem_cons, List.not_mem_nil, or_false] at hu
  rcases hu with rfl | rfl | rfl <;> rfl
end Go.Own
namespace Go.Proofs.Ytjijniillehfoaa
open Go Go.RowKit Go.Own
set_option linter.unusedVariables false
theorem info_bl : Info Try.prog 77 (.agg #[.int .i64 0, .int .i64 0, .bool false]) 3 24 := by unfold Info; kernel_rfl
theorem size_bl : (Try.prog.info? 77).map (·.size) = some 3 := by kernel_rfl
/-- A block as a function tells it. -/
def bkV : Option Blk → Value
  | none => .agg #[.int .i64 0, .int .i64 0, .bool false]
  | some x => .agg #[.int .i64 x.off, .int .i64 x.size, .bool x.used]
/-- A variable that holds a block. -/
abbrev BkO (g : Nat) (o s : Int) (u : Bool) : Ob := RowO g 77 [.int .i64 o, .int .i64 s, .bool u]
/-- A list of blocks of one's own. -/
abbrev BlsO (v : Value) (L : List Blk) : Ob := OwO 77 3 v L.length (L.map blC).flatten
section
variable {B : Nat} {w0 w : World} {l : List Ob} {ops : Array Oper} {rest : List Oper} {o : Oper} {a : Act} {Q : Exit → Act → World → Prop}
theorem bk_alloc (h : St B w0 w l) (hgd : o.guard = none) (ho : o.op = .alloc 77)
    (hk : ∀ g w', St B w0 w' (BkO g 0 0 false :: l) → wpList Try.prog ops Q rest (a.put o.dst (.pointer (some ⟨g, 0, none⟩))) w') : wpList Try.prog ops Q (o :: rest) a w :=
  alloc_st h hgd _ ho _ _ _ info_bl [.int .i64 0, .int .i64 0, .bool false] rfl hk
theorem bk_store (h : St B w0 w l) (i : Nat) {g : Nat} {p q : Int} {r : Bool} (hi : l[i]? = some (BkO g p q r)) (hgd : o.guard = none) (x y : Operand) (ho : o.op = .store 77 x y)
    (hx : a.eval x = .pointer (some ⟨g, 0, none⟩)) (p' q' : Int) (r' : Bool) (hy : a.eval y = .agg #[.int .i64 p', .int .i64 q', .bool r'])
    (hk : ∀ w', St B w0 w' (l.set i (BkO g p' q' r')) → wpList Try.prog ops Q rest (a.put o.dst undef) w') : wpList Try.prog ops Q (o :: rest) a w :=
  store_st h i hi hgd _ x y ho hx [.int .i64 p', .int .i64 q', .bool r'] hy size_bl rfl (by simp [Value.oneCell']) hk
theorem bk_load (h : St B w0 w l) (i : Nat) {g : Nat} {p q : Int} {r : Bool} (hi : l[i]? = some (BkO g p q r)) (hgd : o.guard = none) (x : Operand) (ho : o.op = .load 77 x)
    (hx : a.eval x = .pointer (some ⟨g, 0, none⟩)) (hk : wpList Try.prog ops Q rest (a.put o.dst (.agg #[.int .i64 p, .int .i64 q, .bool r])) w) : wpList Try.prog ops Q (o :: rest) a w :=
  load_st h i hi hgd _ x ho hx _ Try.underlying77 rfl size_bl hk
/-- The same, in an operation that hangs on another one. -/
theorem bk_loadg (h : St B w0 w l) (i : Nat) {g : Nat} {p q : Int} {r : Bool} (hi : l[i]? = some (BkO g p q r)) (hgd : Region.wanted o (yielded ops a.tmps) = true) (x : Operand) (ho : o.op = .load 77 x)
    (hx : a.eval x = .pointer (some ⟨g, 0, none⟩)) (hk : wpList Try.prog ops Q rest (a.put o.dst (.agg #[.int .i64 p, .int .i64 q, .bool r])) w) : wpList Try.prog ops Q (o :: rest) a w :=
  at_wanted hgd fun _ hK => wp_load_row 77 x ho g hx 77 #[.int .i64 p, .int .i64 q, .bool r] (0, 0) _ (h.row hi) Try.underlying77 rfl size_bl (hK _ _ hk)
/-- 'append(l, x)'. -/
theorem bls_app (h : St B w0 w l) (i : Nat) {v : Value} {L : List Blk} (hi : l[i]? = some (BlsO v L)) (hgd : Region.wanted o (yielded ops a.tmps) = true) (s x : Operand)
    (ho : o.op = .call { callee := .builtin .append, args := #[s, x], argTypes := #[75, 75] }) (hs : a.eval s = v) (p q : Int) (r : Bool) (y : Blk) (hp : p = y.off) (hq : q = y.size) (hr : r = y.used)
    (hx : a.eval x = .slice (some ⟨w.heap.size, 0, none⟩) 1 1) (hL : L.length ≤ 1000000)
    (hk : ∀ v' w', St B w0 w' (l.set i (BlsO v' (L ++ [y]))) → wpList Try.prog ops Q rest (a.put o.dst v') w') : wpList Try.prog ops Q (o :: rest) a (w.alloc (.cells #[.int .i64 p, .int .i64 q, .bool r] 77 (0, 0))) := by
  subst hp; subst hq; subst hr
  have h' := h.alloc (.cells #[.int .i64 y.off, .int .i64 y.size, .bool y.used] 77 (0, 0))
  refine app_in hgd s x 75 ho 0 77 _ 3 24 Try.underlying75 info_bl rfl (by decide) v L.length _ hs (h'.own hi) _ 1 1 (blC y) hx (Sl.lit w 77 (blC y) 1 3 rfl (by decide)) (blC_one y) (by omega) (by omega) (Nat.zero_le _) fun v' w' h1 h2 h3 => hk v' w' ?_
  have := h'.ownTo hi w' v' _ _ h1 h2 h3
  unfold BlsO
  rw [List.length_append, List.map_append, List.flatten_append]
  simpa using this
end
end Go.Proofs.Ytjijniillehfoaa

namespace Go.Proofs.Ytjijniillehfoaa
open Go Go.RowKit Go.Own
set_option linter.unusedVariables false
theorem rem16 (s : Int) (h : 0 ≤ s) : s.tmod 16 = s % 16 := Int.tmod_eq_emod_of_nonneg h
theorem ref_IsSize (w : World) (s : Int) : Calls Try.prog 160 #[.int .i64 s] w fun e w' => e = .returned (.bool (isSize s)) ∧ w = w' := by
  by_cases h1 : 32 ≤ s
  · by_cases h2 : s ≤ 16384
    · go_enter Try.func160, Try.ntmps160
      go_wp2
      go_ret
      refine ⟨rB ?_, rfl⟩
      simp [isSize, h1, h2, Bool.beq_eq_decide_eq]
    · go_enter Try.func160, Try.ntmps160
      go_wp2
      go_ret
      exact ⟨rB (isSize_no (by omega)).symm, rfl⟩
  · go_enter Try.func160, Try.ntmps160
    go_wp2
    go_ret
    exact ⟨rB (isSize_no (by omega)).symm, rfl⟩
theorem tag_Pack (w : World) (s : Int) (u : Bool) : Calls Try.prog 154 #[.int .i64 s, .bool u] w fun e w' => e = .returned (.int .u64 (tagOf s u)) ∧ w = w' := by
  by_cases h : isSize s = true
  · have h' := (isSize_iff s).1 h
    obtain ⟨h1, h2, h3⟩ := h'
    have hor := or1 s (by omega) (by omega) (by omega)
    have hne : (s % 16 != 0) = false := by rw [bne_eq_false_iff_eq]; exact h3
    have ht : tagOf s u = if u then s + 1 else s := by unfold tagOf; rw [h]; rfl
    have HT := Lib.hid ht
    clear ht h h3
    cases u with
    | true =>
      go_enter Try.func154, Try.ntmps154
      go_wp2
      go_ret
      exact ⟨rI (by rw [HT.out]; rfl), rfl⟩
    | false =>
      go_enter Try.func154, Try.ntmps154
      go_wp2
      go_ret
      exact ⟨rI (by rw [HT.out]; rfl), rfl⟩
  · have hn : s < 32 ∨ 16384 < s ∨ (32 ≤ s ∧ s ≤ 16384 ∧ (s % 16 != 0) = true) := by
      have h4 : ¬ (32 ≤ s ∧ s ≤ 16384 ∧ s % 16 = 0) := fun hh => h (isSize_yes hh)
      rw [bne_iff_ne]; omega
    have ht : tagOf s u = 0 := by unfold tagOf; rw [Bool.not_eq_true] at h; rw [h]; rfl
    have HT := Lib.hid ht
    clear ht h
    rcases hn with hn | hn | ⟨h1, h2, h3⟩
    all_goals
      go_enter Try.func154, Try.ntmps154
      go_wp2
      go_ret
      exact ⟨rI HT.out.symm, rfl⟩
theorem ref_Pack (w : World) (s : Int) (u : Bool) : Calls Try.prog 161 #[.int .i64 s, .bool u] w fun e w' => e = .returned (.int .u64 (tagOf s u)) ∧ w = w' := by
  cases h : isSize s with
  | true =>
    have h' := (isSize_iff s).1 h
    obtain ⟨h1, h2, h3⟩ := h'
    have ht : tagOf s u = if u then s + 1 else s := by unfold tagOf; rw [h]; rfl
    have k := ref_IsSize w s
    rw [h] at k
    have K := Lib.hid k
    have HT := Lib.hid ht
    clear ht h h3 k
    cases u with
    | true =>
      go_enter Try.func161, Try.ntmps161
      go_wp2_with fail
      refine K.out.mono ?_
      rintro e w' ⟨rfl, rfl⟩
      go_wp2
      go_ret
      exact ⟨rI (by rw [HT.out]; rfl), rfl⟩
    | false =>
      go_enter Try.func161, Try.ntmps161
      go_wp2_with fail
      refine K.out.mono ?_
      rintro e w' ⟨rfl, rfl⟩
      go_wp2
      go_ret
      exact ⟨rI (by rw [HT.out]; rfl), rfl⟩
  | false =>
    have ht : tagOf s u = 0 := tagOf_zero.2 h
    have k := ref_IsSize w s
    rw [h] at k
    have K := Lib.hid k
    have HT := Lib.hid ht
    clear ht h k
    go_enter Try.func161, Try.ntmps161
    go_wp2_with fail
    refine K.out.mono ?_
    rintro e w' ⟨rfl, rfl⟩
    go_wp2
    go_ret
    exact ⟨rI HT.out.symm, rfl⟩

theorem tag_Unpack (w : World) (v : Int) (h0 : 0 ≤ v) (h1 : v ≤ 18446744073709551615) :
    Calls Try.prog 156 #[.int .u64 v] w fun e w' => e = .returned (.tuple #[.int .i64 (tagS v), .bool (tagU v), .bool (isTag v)]) ∧ w = w' := by
  have e1 := low_eq v h0 h1
  have e2 := odd_eq v h0 h1
  have hw := wrapI64 (n := v % 65536 - v % 2) (by omega) (by omega)
  by_cases hz : v = 0
  · subst hz
    go_enter Try.func156, Try.ntmps156
    go_wp2
    go_ret3
    exact ⟨by rw [show tagS 0 = 0 from by decide, show tagU 0 = false from by decide, show isTag 0 = false from by decide]; rfl, rfl⟩
  · have hz' : (v == 0) = false := by rw [beq_eq_false_iff_ne]; exact hz
    have hq := (unpack_eq v h0).resolve_right hz
    cases ht : isTag v with
    | true =>
      rw [ht] at hq
      have hs : v % 65536 - v % 2 = tagS v := by have := isTag_rng ht; unfold tagS; rw [ht]; simp; omega
      have hu : (v % 2 == 1) = tagU v := by unfold tagU; rw [ht]; rw [Bool.eq_iff_iff]; simp
      have HS := Lib.hid hs; have HU := Lib.hid hu
      clear hs hu ht hz
      go_enter Try.func156, Try.ntmps156
      go_wp2_with fail
      with_reducible refine (tag_Pack _ _ _).mono ?_
      rintro e w' ⟨rfl, rfl⟩
      go_wp2
      go_ret3
      exact ⟨by rw [← HS.out, ← HU.out]; rfl, rfl⟩
    | false =>
      rw [ht] at hq
      obtain ⟨n1, n2⟩ := noTag ht
      have N1 := Lib.hid n1; have N2 := Lib.hid n2
      clear n1 n2 ht hz
      go_enter Try.func156, Try.ntmps156
      go_wp2_with fail
      with_reducible refine (tag_Pack _ _ _).mono ?_
      rintro e w' ⟨rfl, rfl⟩
      go_wp2
      go_ret3
      exact ⟨by rw [N1.out, N2.out]; rfl, rfl⟩
theorem ref_Unpack (w : World) (v : Int) (h0 : 0 ≤ v) (h1 : v ≤ 18446744073709551615) :
    Calls Try.prog 159 #[.int .u64 v] w fun e w' => e = .returned (.tuple #[.int .i64 (tagS v), .bool (tagU v), .bool (isTag v)]) ∧ w = w' := by
  by_cases hb : 20000 < v
  · have ht : isTag v = false := by
      rw [← Bool.not_eq_true]; intro h; have := isTag_rng h; omega
    obtain ⟨n1, n2⟩ := noTag ht
    have HT := Lib.hid ht; have N1 := Lib.hid n1; have N2 := Lib.hid n2
    clear n1 n2 ht
    go_enter Try.func159, Try.ntmps159
    go_wp2
    go_ret3
    exact ⟨by rw [N1.out, N2.out, HT.out]; rfl, rfl⟩
  · have k := ref_IsSize w (v - v % 2)
    have hu : tagU v = (isTag v && (v % 2 == 1)) := by unfold tagU; congr 1
    have hd : isSize (v - v % 2) = isTag v := rfl
    rw [hd] at k
    clear hd
    cases ht : isTag v with
    | true =>
      rw [ht] at k hu
      have hs : v - v % 2 = tagS v := by unfold tagS; rw [ht]; rfl
      have K := Lib.hid k; have HS := Lib.hid hs; have HU := Lib.hid hu
      clear k hs hu ht
      go_enter Try.func159, Try.ntmps159
      go_wp2_with fail
      with_reducible refine K.out.mono ?_
      rintro e w' ⟨rfl, rfl⟩
      go_wp2
      go_ret3
      exact ⟨by rw [HU.out, ← HS.out]; rfl, rfl⟩
    | false =>
      rw [ht] at k
      obtain ⟨n1, n2⟩ := noTag ht
      have K := Lib.hid k; have N1 := Lib.hid n1; have N2 := Lib.hid n2
      clear k hu n1 n2 ht
      go_enter Try.func159, Try.ntmps159
      go_wp2_with fail
      with_reducible refine K.out.mono ?_
      rintro e w' ⟨rfl, rfl⟩
      go_wp2
      go_ret3
      exact ⟨by rw [N1.out, N2.out]; rfl, rfl⟩
end Go.Proofs.Ytjijniillehfoaa

/- Blocks of an arena: the program's calls. -/
namespace Go.Own
def blkI (b : List UInt8) (o : Int) : Option Blk := if 0 ≤ o then blkAt b o.toNat else none
def aheadI (b : List UInt8) (o : Int) : Option Blk := if 0 ≤ o then aheadB b o.toNat else none
theorem couldB_iff {b : List UInt8} {o s : Int} : couldB b o s = true ↔ 184 ≤ o ∧ o % 16 = 8 ∧ o ≤ b.length ∧ s ≤ b.length - o := by unfold couldB; exact decide_eq_true_iff
theorem couldB_no {b : List UInt8} {o s : Int} (h : ¬ (184 ≤ o ∧ o % 16 = 8 ∧ o ≤ b.length ∧ s ≤ b.length - o)) : couldB b o s = false := by unfold couldB; exact decide_eq_false h
theorem blkI_none {b : List UInt8} {o : Int} (h : couldB b o 32 = false) : blkI b o = none := by
  unfold blkI
  split
  · rename_i h0
    cases hx : blkAt b o.toNat with
    | none => rfl
    | some x =>
      obtain ⟨_, h1, h2, h3, _, _, h6, _⟩ := blkAt_some hx
      have : couldB b o 32 = true := couldB_iff.2 ⟨by omega, by omega, by omega, by omega⟩
      rw [this] at h; cases h
  · rfl
end Go.Own
namespace Go.Proofs.Ytjijniillehfoaa
open Go Go.RowKit Go.Own
set_option linter.unusedVariables false
set_option maxRecDepth 100000
def errO (x : Option Blk) : Value := match x with | none => .iface 183 (.int .i64 3) | some _ => .nilIface
section
variable {B : Nat} {w0 w : World} {l : List Ob} {i p : Nat} {A : Ar}
theorem ar_small (h : St B w0 w l) (hi : l[i]? = some (ArT p A)) : A.b.length ≤ 16384 ∧ A.base ≤ 4611686018427387904 := by
  obtain ⟨v, ha⟩ := h.ar hi
  have h1 := ha.hbase; have h2 := ha.hcap; have h3 := ha.hlen
  omega
theorem blk_fits (h : St B w0 w l) (hi : l[i]? = some (ArT p A)) (o s : Int) :
    Calls Try.prog 155 #[arP p, .int .i64 o, .int .i64 s] w fun e w' => e = .returned (.bool (couldB A.b o s)) ∧ w = w' := by
  have hsm := (ar_small h hi).1
  have KL := Lib.hid (ar_Len h hi)
  clear h hi
  by_cases g1 : 184 ≤ o
  · have ht := rem16 o (by omega)
    have d1 : decide (184 ≤ o) = true := decide_eq_true g1
    by_cases g2 : o % 16 = 8
    · have d2 : (o % 16 == 8) = true := by rw [beq_iff_eq]; exact g2
      by_cases g3 : o ≤ A.b.length
      · have d3 : decide (o ≤ (A.b.length : Int)) = true := decide_eq_true g3
        have e4 : IntKind.i64.wrap ((A.b.length : Int) - o) = (A.b.length : Int) - o := IntWalk.i64_in _ (by omega)
        have hc : couldB A.b o s = decide (s ≤ (A.b.length : Int) - o) := by
          unfold couldB; rw [decide_eq_decide]; omega
        rw [hc]
        clear g1 g2 hc
        go_enter Try.func155, Try.ntmps155
        go_wp2_with fail
        with_reducible refine KL.out.mono ?_
        rintro e w' ⟨rfl, rfl⟩
        go_wp2_with fail
        with_reducible refine KL.out.mono ?_
        rintro e w' ⟨rfl, rfl⟩
        go_wp2
        go_ret
        exact ⟨rfl, rfl⟩
      · have d3 : decide (o ≤ (A.b.length : Int)) = false := decide_eq_false g3
        rw [couldB_no (by omega)]
        clear g1 g2
        go_enter Try.func155, Try.ntmps155
        go_wp2_with fail
        with_reducible refine KL.out.mono ?_
        rintro e w' ⟨rfl, rfl⟩
        go_wp2
        go_ret
        exact ⟨rfl, rfl⟩
    · have d2 : (o % 16 == 8) = false := by rw [beq_eq_false_iff_ne]; exact g2
      rw [couldB_no (by omega)]
      clear g1
      go_enter Try.func155, Try.ntmps155
      go_wp2
      go_ret
      exact ⟨rfl, rfl⟩
  · have d1 : decide (184 ≤ o) = false := decide_eq_false g1
    rw [couldB_no (by omega)]
    go_enter Try.func155, Try.ntmps155
    go_wp2
    go_ret
    exact ⟨rfl, rfl⟩
end
end Go.Proofs.Ytjijniillehfoaa

/- Blocks of an arena: the program's Get and Ahead. -/
namespace Go.Proofs.Ytjijniillehfoaa
open Go Go.RowKit Go.Own
set_option linter.unusedVariables false
set_option maxRecDepth 100000
section
variable {B : Nat} {w0 w : World} {l : List Ob} {i p : Nat} {A : Ar}
set_option maxHeartbeats 4000000 in
theorem blk_Get (h : St B w0 w l) (hi : l[i]? = some (ArT p A)) (o : Int) :
    Calls Try.prog 64 #[arP p, .int .i64 o] w fun e w' => e = .returned (.tuple #[bkV (blkI A.b o), errO (blkI A.b o)]) ∧ St B w0 w' l := by
  obtain ⟨hsm, hbs⟩ := ar_small h hi
  have H := Lib.hid h; have HI := Lib.hid hi
  clear h hi
  by_cases hc : couldB A.b o 32 = true
  · obtain ⟨c1, c2, c3, c4⟩ := couldB_iff.1 hc
    obtain ⟨O, rfl⟩ := Int.eq_ofNat_of_zero_le (show 0 ≤ o by omega)
    have hgi : blkI A.b (O : Int) = blkAt A.b O := by unfold blkI; rw [if_pos (Int.natCast_nonneg _), Int.toNat_natCast]
    rw [hgi]
    have hw := numAt_lt A.b O
    obtain ⟨W, hW⟩ : ∃ W, W = numAt A.b O := ⟨_, rfl⟩
    rw [← hW] at hw
    have hO : O ≤ 16384 := by omega
    have hO2 : 184 ≤ O := by omega
    have HO := Lib.hid (And.intro c1 (And.intro c2 (And.intro c3 c4)))
    have HWE := Lib.hid hW
    clear c1 c2 c3 c4 hgi hW
    cases ht : isTag (W : Int) with
    | false =>
      have hn : blkAt A.b O = none := by
        unfold blkAt; rw [if_neg]; intro hh; rw [← HWE.out, ht] at hh; exact absurd hh.2.2.1 Bool.false_ne_true
      rw [hn]
      clear hn
      go_enter Try.func64, Try.ntmps64
      go_wp2_with (refine bk_alloc H.out rfl rfl ?_; intro g w1 h1; have H1 := Lib.hid h1; clear h1)
      have kc := blk_fits H1.out (i := i + 1) HI.out (O : Int) 32
      rw [hc] at kc
      with_reducible refine kc.mono ?_
      clear kc
      rintro e w' ⟨rfl, rfl⟩
      go_wp2_with fail
      have kc := ar_Base (p := p) (A := A) H1.out (i := i + 1) HI.out
      with_reducible refine kc.mono ?_
      clear kc
      rintro e w' ⟨rfl, rfl⟩
      go_wp2_with fail
      have kc := ar_WordAt H1.out (i := i + 1) HI.out ((A.base : Int) + O) O rfl (by have := HO.out; omega)
      rw [← HWE.out] at kc
      with_reducible refine kc.mono ?_
      clear kc
      rintro e w' ⟨rfl, rfl⟩
      go_wp2_with fail
      have kc := tag_Unpack w1 (W : Int) (Int.natCast_nonneg _) (by omega)
      rw [ht] at kc
      with_reducible refine kc.mono ?_
      clear kc
      rintro e w' ⟨rfl, rfl⟩
      clear ht hc
      go_wp2_with (refine bk_store H1.out 0 rfl rfl _ _ rfl rfl 0 0 false rfl ?_; intro w2 h2; have H2 := Lib.hid h2; clear h2)
      refine bodyPost_ret (results_row2 rfl _ _ g _ _ _ rfl (H2.out.row (i := 0) rfl) Try.underlying77 rfl size_bl) rfl ⟨rfl, H2.out.tail⟩
    | true =>
      obtain ⟨t1, t2, t3⟩ := tagS_isTag ht
      obtain ⟨S, hS⟩ := Int.eq_ofNat_of_zero_le (show 0 ≤ tagS W by omega)
      rw [hS] at t1 t2 t3
      have HT := Lib.hid (And.intro t1 (And.intro t2 t3))
      have hS2 : S ≤ 16384 := by omega
      have hSn : (tagS ((numAt A.b O : Nat) : Int)).toNat = S := by rw [← HWE.out, hS, Int.toNat_natCast]
      have HSN := Lib.hid hSn
      have HTT := Lib.hid ht
      have hb : blkAt A.b O = if O + S ≤ A.b.length ∧ numAt A.b (O + S - 8) = W then some ⟨O, S, tagU W⟩ else none := by
        have := HO.out
        unfold blkAt
        rw [hSn, ← HWE.out, ht]
        by_cases hh : O + S ≤ A.b.length ∧ numAt A.b (O + S - 8) = W
        · rw [if_pos ⟨by omega, by omega, rfl, hh⟩, if_pos hh]
        · rw [if_neg (fun h => hh h.2.2.2), if_neg hh]
      obtain ⟨R, hR⟩ : ∃ R, R = blkAt A.b O := ⟨_, rfl⟩
      rw [← hR]
      have HR := Lib.hid (hR.trans hb)
      clear hb t1 t2 t3 hSn hR
      go_enter Try.func64, Try.ntmps64
      go_wp2_with (refine bk_alloc H.out rfl rfl ?_; intro g w1 h1; have H1 := Lib.hid h1; clear h1)
      have kc := blk_fits H1.out (i := i + 1) HI.out (O : Int) 32
      rw [hc] at kc
      with_reducible refine kc.mono ?_
      clear kc
      rintro e w' ⟨rfl, rfl⟩
      go_wp2_with fail
      have kc := ar_Base (p := p) (A := A) H1.out (i := i + 1) HI.out
      with_reducible refine kc.mono ?_
      clear kc
      rintro e w' ⟨rfl, rfl⟩
      go_wp2_with fail
      have kc := ar_WordAt H1.out (i := i + 1) HI.out ((A.base : Int) + O) O rfl (by have := HO.out; omega)
      rw [← HWE.out] at kc
      with_reducible refine kc.mono ?_
      clear kc
      rintro e w' ⟨rfl, rfl⟩
      go_wp2_with fail
      have kc := tag_Unpack w1 (W : Int) (Int.natCast_nonneg _) (by omega)
      rw [ht, hS] at kc
      with_reducible refine kc.mono ?_
      clear kc
      rintro e w' ⟨rfl, rfl⟩
      clear ht hc hS
      go_wp2_with fail
      have kc := blk_fits H1.out (i := i + 1) HI.out (O : Int) (S : Int)
      by_cases hf : O + S ≤ A.b.length
      · have hyes : couldB A.b (O : Int) (S : Int) = true := couldB_iff.2 (by have := HO.out; omega)
        rw [hyes] at kc
        clear hyes
        with_reducible refine kc.mono ?_
        clear kc
        rintro e w' ⟨rfl, rfl⟩
        go_wp2_with fail
        have kc := ar_Base (p := p) (A := A) H1.out (i := i + 1) HI.out
        with_reducible refine kc.mono ?_
        clear kc
        rintro e w' ⟨rfl, rfl⟩
        go_wp2_with fail
        have kc := ar_WordAt H1.out (i := i + 1) HI.out ((A.base : Int) + ((O : Int) + S - 8)) (O + S - 8) (by have := HO.out; omega) (by have := HT.out; omega)
        have hv := numAt_lt A.b (O + S - 8)
        obtain ⟨V, hV⟩ : ∃ V, V = numAt A.b (O + S - 8) := ⟨_, rfl⟩
        rw [← hV] at kc hv
        have HV := Lib.hid hV
        clear hV
        with_reducible refine kc.mono ?_
        clear kc
        rintro e w' ⟨rfl, rfl⟩
        by_cases hv2 : V = W
        · subst hv2
          go_wp2_with (refine bk_store H1.out 0 rfl rfl _ _ rfl rfl (O : Int) (S : Int) (tagU V) rfl ?_; intro w2 h2; have H2 := Lib.hid h2; clear h2)
          refine bodyPost_ret (results_row2 rfl _ _ g _ _ _ rfl (H2.out.row (i := 0) rfl) Try.underlying77 rfl size_bl) rfl ⟨by rw [HR.out, if_pos ⟨hf, HV.out.symm⟩]; rfl, H2.out.tail⟩
        · skip
          go_wp2_with (refine bk_store H1.out 0 rfl rfl _ _ rfl rfl 0 0 false rfl ?_; intro w2 h2; have H2 := Lib.hid h2; clear h2)
          refine bodyPost_ret (results_row2 rfl _ _ g _ _ _ rfl (H2.out.row (i := 0) rfl) Try.underlying77 rfl size_bl) rfl ⟨by rw [HR.out, if_neg (fun h => hv2 (HV.out.trans h.2))]; rfl, H2.out.tail⟩
      · have hno : couldB A.b (O : Int) (S : Int) = false := couldB_no (by intro h; omega)
        rw [hno] at kc
        clear hno
        with_reducible refine kc.mono ?_
        clear kc
        rintro e w' ⟨rfl, rfl⟩
        go_wp2_with (refine bk_store H1.out 0 rfl rfl _ _ rfl rfl 0 0 false rfl ?_; intro w2 h2; have H2 := Lib.hid h2; clear h2)
        refine bodyPost_ret (results_row2 rfl _ _ g _ _ _ rfl (H2.out.row (i := 0) rfl) Try.underlying77 rfl size_bl) rfl ⟨by rw [HR.out, if_neg (fun h => hf h.1)]; rfl, H2.out.tail⟩
  · have hc : couldB A.b o 32 = false := by cases hx : couldB A.b o 32 <;> simp_all
    rw [blkI_none hc]
    go_enter Try.func64, Try.ntmps64
    go_wp2_with (refine bk_alloc H.out rfl rfl ?_; intro g w1 h1; have H1 := Lib.hid h1; clear h1)
    have kc := blk_fits H1.out (i := i + 1) HI.out o 32
    rw [hc] at kc
    with_reducible refine kc.mono ?_
    clear kc hc
    rintro e w' ⟨rfl, rfl⟩
    go_wp2_with (refine bk_store H1.out 0 rfl rfl _ _ rfl rfl 0 0 false rfl ?_; intro w2 h2; have H2 := Lib.hid h2; clear h2)
    refine bodyPost_ret (results_row2 rfl _ _ g _ _ _ rfl (H2.out.row (i := 0) rfl) Try.underlying77 rfl size_bl) rfl ⟨rfl, H2.out.tail⟩
end
end Go.Proofs.Ytjijniillehfoaa

/- Blocks of an arena: the program's Ahead. -/
namespace Go.Own
theorem ahead_eq {b : List UInt8} {O S W : Nat} (h1 : 184 ≤ O) (h2 : O ≤ b.length) (hW : W = numAt b (O - 8)) (ht : isTag (W : Int) = true) (hS : tagS (W : Int) = S) :
    aheadI b (O : Int) = match blkI b ((O : Int) - S) with | some x => (if x.size = S ∧ x.used = tagU (W : Int) then some x else none) | none => none := by
  subst hW
  unfold aheadI
  rw [if_pos (Int.natCast_nonneg _), Int.toNat_natCast]
  have hn : (tagS ((numAt b (O - 8) : Nat) : Int)).toNat = S := by rw [hS, Int.toNat_natCast]
  have hg : blkI b ((O : Int) - S) = blkAt b (O - S) := by
    unfold blkI
    split
    · rw [show ((O : Int) - S).toNat = O - S by omega]
    · cases hx : blkAt b (O - S) with
      | none => rfl
      | some x => have := (blkAt_some hx).2.1; omega
  unfold aheadB
  rw [if_pos ⟨h1, h2, ht⟩, hn, hg]
  cases hx : blkAt b (O - S) with
  | none => rfl
  | some x =>
    have := (blkAt_some hx).2.1
    simp only
    by_cases hh : x.size = S ∧ x.used = tagU ((numAt b (O - 8) : Nat) : Int)
    · rw [if_pos ⟨by omega, hh⟩, if_pos hh]
    · rw [if_neg (fun h => hh h.2), if_neg hh]
theorem ahead_none {b : List UInt8} {O W : Nat} (hW : W = numAt b (O - 8)) (ht : isTag (W : Int) = false) : aheadI b (O : Int) = none := by
  subst hW
  unfold aheadI aheadB
  rw [if_pos (Int.natCast_nonneg _), Int.toNat_natCast, if_neg (fun h => by rw [ht] at h; exact Bool.false_ne_true h.2.2)]
theorem ahead_out {b : List UInt8} {o : Int} (h : ¬ (184 ≤ o ∧ o ≤ b.length)) : aheadI b o = none := by
  unfold aheadI
  split
  · unfold aheadB
    rw [if_neg (fun hh => h (by omega))]
  · rfl
end Go.Own
namespace Go.Proofs.Ytjijniillehfoaa
open Go Go.RowKit Go.Own
set_option linter.unusedVariables false
set_option maxRecDepth 100000
section
variable {B : Nat} {w0 w : World} {l : List Ob} {i p : Nat} {A : Ar}
set_option maxHeartbeats 4000000 in
theorem blk_Ahead (h : St B w0 w l) (hi : l[i]? = some (ArT p A)) (o : Int) :
    Calls Try.prog 65 #[arP p, .int .i64 o] w fun e w' => e = .returned (.tuple #[bkV (aheadI A.b o), errO (aheadI A.b o)]) ∧ St B w0 w' l := by
  obtain ⟨hsm, hbs⟩ := ar_small h hi
  have H := Lib.hid h; have HI := Lib.hid hi
  clear h hi
  by_cases c1 : 184 ≤ o
  · by_cases c2 : o ≤ A.b.length
    · obtain ⟨O, rfl⟩ := Int.eq_ofNat_of_zero_le (show 0 ≤ o by omega)
      have hO1 : 184 ≤ O := by omega
      have hO2 : O ≤ A.b.length := by omega
      have hw := numAt_lt A.b (O - 8)
      obtain ⟨W, hW⟩ : ∃ W, W = numAt A.b (O - 8) := ⟨_, rfl⟩
      rw [← hW] at hw
      have HWE := Lib.hid hW
      clear c1 c2 hW
      cases ht : isTag (W : Int) with
      | false =>
        rw [ahead_none HWE.out ht]
        go_enter Try.func65, Try.ntmps65
        go_wp2_with (refine bk_alloc H.out rfl rfl ?_; intro g w1 h1; have H1 := Lib.hid h1; clear h1)
        have kc := ar_Len (p := p) (A := A) H1.out (i := i + 1) HI.out
        with_reducible refine kc.mono ?_
        clear kc
        rintro e w' ⟨rfl, rfl⟩
        go_wp2_with fail
        have kc := ar_Base (p := p) (A := A) H1.out (i := i + 1) HI.out
        with_reducible refine kc.mono ?_
        clear kc
        rintro e w' ⟨rfl, rfl⟩
        go_wp2_with fail
        have kc := ar_WordAt H1.out (i := i + 1) HI.out ((A.base : Int) + ((O : Int) - 8)) (O - 8) (by omega) (by omega)
        rw [← HWE.out] at kc
        with_reducible refine kc.mono ?_
        clear kc
        rintro e w' ⟨rfl, rfl⟩
        go_wp2_with fail
        have kc := tag_Unpack w1 (W : Int) (Int.natCast_nonneg _) (by omega)
        rw [ht] at kc
        with_reducible refine kc.mono ?_
        clear kc
        rintro e w' ⟨rfl, rfl⟩
        clear ht
        go_wp2_with (refine bk_store H1.out 0 rfl rfl _ _ rfl rfl 0 0 false rfl ?_; intro w2 h2; have H2 := Lib.hid h2; clear h2)
        refine bodyPost_ret (results_row2 rfl _ _ g _ _ _ rfl (H2.out.row (i := 0) rfl) Try.underlying77 rfl size_bl) rfl ⟨rfl, H2.out.tail⟩
      | true =>
        obtain ⟨t1, t2, t3⟩ := tagS_isTag ht
        obtain ⟨S, hS⟩ := Int.eq_ofNat_of_zero_le (show 0 ≤ tagS W by omega)
        rw [hS] at t1 t2 t3
        have hS2 : S ≤ 16384 := by omega
        obtain ⟨U, hU⟩ : ∃ U, U = tagU (W : Int) := ⟨_, rfl⟩
        have HU := Lib.hid hU
        obtain ⟨R, hR⟩ : ∃ R, R = aheadI A.b (O : Int) := ⟨_, rfl⟩
        rw [← hR]
        have hR2 := hR.trans (ahead_eq hO1 hO2 HWE.out ht hS)
        obtain ⟨X, hX⟩ : ∃ X, X = blkI A.b ((O : Int) - S) := ⟨_, rfl⟩
        rw [← hX, ← hU] at hR2
        clear hU
        have HX := Lib.hid hX
        clear hR t1 t2 t3 hX
        cases X with
        | none =>
          simp only at hR2
          subst hR2
          go_enter Try.func65, Try.ntmps65
          go_wp2_with (refine bk_alloc H.out rfl rfl ?_; intro g w1 h1; have H1 := Lib.hid h1; clear h1)
          have kc := ar_Len (p := p) (A := A) H1.out (i := i + 1) HI.out
          with_reducible refine kc.mono ?_
          clear kc
          rintro e w' ⟨rfl, rfl⟩
          go_wp2_with fail
          have kc := ar_Base (p := p) (A := A) H1.out (i := i + 1) HI.out
          with_reducible refine kc.mono ?_
          clear kc
          rintro e w' ⟨rfl, rfl⟩
          go_wp2_with fail
          have kc := ar_WordAt H1.out (i := i + 1) HI.out ((A.base : Int) + ((O : Int) - 8)) (O - 8) (by omega) (by omega)
          rw [← HWE.out] at kc
          with_reducible refine kc.mono ?_
          clear kc
          rintro e w' ⟨rfl, rfl⟩
          go_wp2_with fail
          have kc := tag_Unpack w1 (W : Int) (Int.natCast_nonneg _) (by omega)
          rw [ht, hS] at kc
          with_reducible refine kc.mono ?_
          clear kc
          rintro e w' ⟨rfl, rfl⟩
          clear ht hS
          go_wp2_with fail
          have kc := blk_Get H1.out (i := i + 1) HI.out ((O : Int) - S)
          rw [← HX.out, show bkV none = .agg #[.int .i64 0, .int .i64 0, .bool false] from rfl, show errO none = .iface 183 (.int .i64 3) from rfl] at kc
          with_reducible refine kc.mono ?_
          clear kc
          rintro e w3 ⟨rfl, h3⟩
          have H3 := Lib.hid h3
          clear h3
          go_wp2_with (first | (refine bk_alloc H3.out rfl rfl ?_; intro g4 w4 h4; have H4 := Lib.hid h4; clear h4) | (refine bk_store H4.out 0 rfl rfl _ _ rfl rfl 0 0 false rfl ?_; intro w5 h5; have H5 := Lib.hid h5; clear h5 H4) | (refine bk_store H5.out 1 rfl rfl _ _ rfl rfl 0 0 false rfl ?_; intro w2 h2; have H2 := Lib.hid h2; clear h2))
          refine bodyPost_ret (results_row2 rfl _ _ g _ _ _ rfl (H2.out.row (i := 1) rfl) Try.underlying77 rfl size_bl) rfl ⟨rfl, H2.out.tail.tail⟩
        | some x =>
          have hx := HX.out
          have hxb : 0 ≤ (x.off : Int) ∧ x.size ≤ 16384 := by
            unfold blkI at hx
            split at hx
            · have := blkAt_some hx.symm; omega
            · cases hx
          obtain ⟨hxb1, hxb2⟩ := hxb
          clear hx
          have HR := Lib.hid hR2
          clear hR2
          go_enter Try.func65, Try.ntmps65
          go_wp2_with (refine bk_alloc H.out rfl rfl ?_; intro g w1 h1; have H1 := Lib.hid h1; clear h1)
          have kc := ar_Len (p := p) (A := A) H1.out (i := i + 1) HI.out
          with_reducible refine kc.mono ?_
          clear kc
          rintro e w' ⟨rfl, rfl⟩
          go_wp2_with fail
          have kc := ar_Base (p := p) (A := A) H1.out (i := i + 1) HI.out
          with_reducible refine kc.mono ?_
          clear kc
          rintro e w' ⟨rfl, rfl⟩
          go_wp2_with fail
          have kc := ar_WordAt H1.out (i := i + 1) HI.out ((A.base : Int) + ((O : Int) - 8)) (O - 8) (by omega) (by omega)
          rw [← HWE.out] at kc
          with_reducible refine kc.mono ?_
          clear kc
          rintro e w' ⟨rfl, rfl⟩
          go_wp2_with fail
          have kc := tag_Unpack w1 (W : Int) (Int.natCast_nonneg _) (by omega)
          rw [ht, hS, ← HU.out] at kc
          with_reducible refine kc.mono ?_
          clear kc
          rintro e w' ⟨rfl, rfl⟩
          clear ht hS
          go_wp2_with fail
          have kc := blk_Get H1.out (i := i + 1) HI.out ((O : Int) - S)
          rw [← HX.out, show bkV (some x) = .agg #[.int .i64 x.off, .int .i64 x.size, .bool x.used] from rfl, show errO (some x) = .nilIface from rfl] at kc
          with_reducible refine kc.mono ?_
          clear kc
          rintro e w3 ⟨rfl, h3⟩
          have H3 := Lib.hid h3
          clear h3
          by_cases q1 : x.size = S
          · subst q1
            by_cases q2 : x.used = U
            · subst q2
              go_wp2_with (first | (refine bk_alloc H3.out rfl rfl ?_; intro g4 w4 h4; have H4 := Lib.hid h4; clear h4) | (refine bk_store H4.out 0 rfl rfl _ _ rfl rfl (x.off : Int) (x.size : Int) x.used rfl ?_; intro w5 h5; have H5 := Lib.hid h5; clear h5 H4; have k1 : w5.cell? ⟨g4, 1, none⟩ = some (.int .i64 x.size) := (H5.out.row (i := 0) rfl).cell 1; have k2 : w5.cell? ⟨g4, 2, none⟩ = some (.bool x.used) := (H5.out.row (i := 0) rfl).cell 2) | (refine bk_load H5.out 0 rfl rfl _ rfl rfl ?_) | (refine bk_store H5.out 1 rfl rfl _ _ rfl rfl (x.off : Int) (x.size : Int) x.used rfl ?_; intro w2 h2; have H2 := Lib.hid h2; clear h2))
              refine bodyPost_ret (results_row2 rfl _ _ g _ _ _ rfl (H2.out.row (i := 1) rfl) Try.underlying77 rfl size_bl) rfl ⟨by rw [HR.out]; simp only; rw [if_pos ⟨trivial, trivial⟩]; rfl, H2.out.tail.tail⟩
            · have hq : U = !x.used := by revert q2; cases x.used <;> cases U <;> simp
              subst hq
              have HQ := Lib.hid q2
              clear q2
              go_wp2_with (first | (refine bk_alloc H3.out rfl rfl ?_; intro g4 w4 h4; have H4 := Lib.hid h4; clear h4) | (refine bk_store H4.out 0 rfl rfl _ _ rfl rfl (x.off : Int) (x.size : Int) x.used rfl ?_; intro w5 h5; have H5 := Lib.hid h5; clear h5 H4; have k1 : w5.cell? ⟨g4, 1, none⟩ = some (.int .i64 x.size) := (H5.out.row (i := 0) rfl).cell 1; have k2 : w5.cell? ⟨g4, 2, none⟩ = some (.bool x.used) := (H5.out.row (i := 0) rfl).cell 2) | (refine bk_store H5.out 1 rfl rfl _ _ rfl rfl 0 0 false rfl ?_; intro w2 h2; have H2 := Lib.hid h2; clear h2))
              refine bodyPost_ret (results_row2 rfl _ _ g _ _ _ rfl (H2.out.row (i := 1) rfl) Try.underlying77 rfl size_bl) rfl ⟨by rw [HR.out]; simp only; rw [if_neg (fun h => HQ.out h.2)]; rfl, H2.out.tail.tail⟩
          · have q1i : ¬ ((x.size : Int) = (S : Int)) := by omega
            have HQ := Lib.hid q1
            clear q1
            go_wp2_with (first | (refine bk_alloc H3.out rfl rfl ?_; intro g4 w4 h4; have H4 := Lib.hid h4; clear h4) | (refine bk_store H4.out 0 rfl rfl _ _ rfl rfl (x.off : Int) (x.size : Int) x.used rfl ?_; intro w5 h5; have H5 := Lib.hid h5; clear h5 H4; have k1 : w5.cell? ⟨g4, 1, none⟩ = some (.int .i64 x.size) := (H5.out.row (i := 0) rfl).cell 1; have k2 : w5.cell? ⟨g4, 2, none⟩ = some (.bool x.used) := (H5.out.row (i := 0) rfl).cell 2) | (refine bk_store H5.out 1 rfl rfl _ _ rfl rfl 0 0 false rfl ?_; intro w2 h2; have H2 := Lib.hid h2; clear h2))
            refine bodyPost_ret (results_row2 rfl _ _ g _ _ _ rfl (H2.out.row (i := 1) rfl) Try.underlying77 rfl size_bl) rfl ⟨by rw [HR.out]; simp only; rw [if_neg (fun h => HQ.out h.1)]; rfl, H2.out.tail.tail⟩
    · rw [ahead_out (fun h => c2 h.2)]
      have c3 : (A.b.length : Int) < o := by omega
      clear c2
      go_enter Try.func65, Try.ntmps65
      go_wp2_with (refine bk_alloc H.out rfl rfl ?_; intro g w1 h1; have H1 := Lib.hid h1; clear h1)
      have kc := ar_Len (p := p) (A := A) H1.out (i := i + 1) HI.out
      with_reducible refine kc.mono ?_
      clear kc
      rintro e w' ⟨rfl, rfl⟩
      go_wp2_with (refine bk_store H1.out 0 rfl rfl _ _ rfl rfl 0 0 false rfl ?_; intro w2 h2; have H2 := Lib.hid h2; clear h2)
      refine bodyPost_ret (results_row2 rfl _ _ g _ _ _ rfl (H2.out.row (i := 0) rfl) Try.underlying77 rfl size_bl) rfl ⟨rfl, H2.out.tail⟩
  · rw [ahead_out (fun h => c1 h.1)]
    have c3 : o < 184 := by omega
    clear c1
    go_enter Try.func65, Try.ntmps65
    go_wp2_with (first | (refine bk_alloc H.out rfl rfl ?_; intro g w1 h1; have H1 := Lib.hid h1; clear h1) | (refine bk_store H1.out 0 rfl rfl _ _ rfl rfl 0 0 false rfl ?_; intro w2 h2; have H2 := Lib.hid h2; clear h2))
    refine bodyPost_ret (results_row2 rfl _ _ g _ _ _ rfl (H2.out.row (i := 0) rfl) Try.underlying77 rfl size_bl) rfl ⟨rfl, H2.out.tail⟩
end
end Go.Proofs.Ytjijniillehfoaa

/- Blocks of an arena: the program's Walk. -/
namespace Go.Own
theorem walkFrom_step {b : List UInt8} {f O : Nat} (h : O < b.length) : walkFrom b (f + 1) O = match blkAt b O with | none => none | some x => (walkFrom b f (O + x.size)).map (x :: ·) := by
  rw [walkFrom, if_pos h]
  cases blkAt b O <;> rfl
theorem walkFrom_end {b : List UInt8} {f O : Nat} (h : ¬ O < b.length) : walkFrom b f O = some [] := by
  cases f <;> rw [walkFrom, if_neg h]
end Go.Own
namespace Go.Proofs.Ytjijniillehfoaa
open Go Go.RowKit Go.Own
set_option linter.unusedVariables false
set_option maxRecDepth 100000
def errW (x : Option (List Blk)) : Value := match x with | none => .iface 183 (.int .i64 3) | some _ => .nilIface
section
variable {B : Nat} {w0 w : World} {l : List Ob} {i p : Nat} {A : Ar}
set_option maxHeartbeats 4000000 in
theorem blk_Walk (h : St B w0 w l) (hi : l[i]? = some (ArT p A)) :
    Calls Try.prog 62 #[arP p] w fun e w' => ∃ v, e = .returned (.tuple #[v, errW (walkB A.b)]) ∧ St B w0 w' (BlsO v ((walkB A.b).getD []) :: l) := by
  obtain ⟨hsm, hbs⟩ := ar_small h hi
  have hs0 : St B w0 w (BlsO (.slice none 0 0) [] :: l) := h.addOwn (Below.refl _ _) (World.ownsRow_nil _ _ _ _)
  have H0 := Lib.hid hs0; have HI := Lib.hid hi
  by_cases c1 : A.b.length < 184
  · have hn : walkB A.b = none := by unfold walkB; rw [if_pos c1]
    rw [hn]
    have KL := Lib.hid (ar_Len h hi)
    clear hs0 h hi hn
    go_enter Try.func62, Try.ntmps62
    go_wp2_with fail
    with_reducible refine KL.out.mono ?_
    rintro e w' ⟨rfl, rfl⟩
    go_wp2
    go_ret2
    exact ⟨_, rfl, H0.out⟩
  · obtain ⟨R, hR⟩ : ∃ R, R = walkB A.b := ⟨_, rfl⟩
    rw [← hR]
    have hR2 : R = (walkFrom A.b A.b.length 184).map ([] ++ ·) := by
      rw [hR]; unfold walkB; rw [if_neg c1]
      cases walkFrom A.b A.b.length 184 <;> rfl
    have KL := Lib.hid (ar_Len h hi)
    have HR := Lib.hid hR2
    have hc : 184 ≤ A.b.length := by omega
    clear hs0 h hi hR hR2 c1
    go_enter Try.func62, Try.ntmps62
    go_wp2_with fail
    with_reducible refine KL.out.mono ?_
    rintro e w' ⟨rfl, rfl⟩
    go_wp2
    clear KL
    go_loopw [4, 5] (fun va vo wr => ∃ (f O : Nat) (L : List Blk), vo = .int .i64 O ∧ 184 ≤ O ∧ St B w0 wr (BlsO va L :: l) ∧ R = (walkFrom A.b f O).map (L ++ ·) ∧ A.b.length ≤ f + O ∧ L.length ≤ O ∧ O ≤ 40000) (fun _ vo _ => 100000 - (intOf vo).toNat)
    case atStart => exact ⟨_, 184, [], rfl, Nat.le_refl _, H0.out, HR.out, by omega, Nat.zero_le _, by omega⟩
    case round =>
      obtain ⟨f, O, L, rfl, hO, hs, hw, hf, hL, hO4⟩ := hrel
      have kc := ar_Len hs (i := i + 1) HI.out
      by_cases hlt : O < A.b.length
      · obtain ⟨f', rfl⟩ : ∃ f', f = f' + 1 := ⟨f - 1, by omega⟩
        rw [walkFrom_step hlt] at hw
        have HS := Lib.hid hs
        obtain ⟨X, hX⟩ : ∃ X, X = blkAt A.b O := ⟨_, rfl⟩
        rw [← hX] at hw
        have kg := blk_Get hs (i := i + 1) HI.out (O : Int)
        rw [show blkI A.b (O : Int) = X by unfold blkI; rw [if_pos (Int.natCast_nonneg _), Int.toNat_natCast, hX]] at kg
        clear hs
        cases X with
        | none =>
          simp only [Option.map_none] at hw
          subst hw
          rw [show bkV none = .agg #[.int .i64 0, .int .i64 0, .bool false] from rfl, show errO none = .iface 183 (.int .i64 3) from rfl] at kg
          clear hX
          go_wp2_with fail
          with_reducible refine kc.mono ?_
          clear kc
          rintro e w' ⟨rfl, rfl⟩
          go_wp2_with fail
          with_reducible refine kg.mono ?_
          clear kg
          rintro e w3 ⟨rfl, h3⟩
          have H3 := Lib.hid h3
          clear h3
          go_wp2_with (first | (refine bk_alloc H3.out rfl rfl ?_; intro g4 w4 h4; have H4 := Lib.hid h4; clear h4) | (refine bk_store H4.out 0 rfl rfl _ _ rfl rfl 0 0 false rfl ?_; intro w5 h5; have H5 := Lib.hid h5; clear h5 H4))
          go_ret2
          have h6 := H5.out.tail.tail
          exact ⟨_, rfl, h6.addOwn (Below.refl _ _) (World.ownsRow_nil _ _ _ _)⟩
        | some x =>
          obtain ⟨x1, x2, x3, x4, x5, x6, x7, x8⟩ := blkAt_some hX.symm
          rw [show bkV (some x) = .agg #[.int .i64 x.off, .int .i64 x.size, .bool x.used] from rfl, show errO (some x) = .nilIface from rfl] at kg
          have HW := Lib.hid hw; have HX1 := Lib.hid x1
          have hL2 : L.length ≤ 1000000 := by omega
          clear hX hw x1 x3 x6 x8
          go_wp2_with fail
          with_reducible refine kc.mono ?_
          clear kc
          rintro e w' ⟨rfl, rfl⟩
          go_wp2_with fail
          with_reducible refine kg.mono ?_
          clear kg
          rintro e w3 ⟨rfl, h3⟩
          have H3 := Lib.hid h3
          clear h3
          go_wp2_with (first | (refine bk_alloc H3.out rfl rfl ?_; intro g4 w4 h4; have H4 := Lib.hid h4; clear h4) | (refine bk_store H4.out 0 rfl rfl _ _ rfl rfl (x.off : Int) (x.size : Int) x.used rfl ?_; intro w5 h5; have H5 := Lib.hid h5; clear h5 H4) | (refine bk_load H5.out 0 rfl rfl _ rfl rfl ?_) | (at_builtin; go_must (refine bls_app H5.out 1 rfl rfl (.tmp 25) (.tmp 27) rfl rfl x.off x.size x.used x rfl rfl rfl rfl hL2 ?_; intro v6 w6 h6; have H6 := Lib.hid h6; clear h6; have k1 : w6.cell? ⟨g4, 1, none⟩ = some (.int .i64 x.size) := (H6.out.row (i := 0) rfl).cell 1)))
          refine ⟨⟨f', O + x.size, L ++ [x], by go_num, by omega, H6.out.tail, ?_, by omega, by rw [List.length_append, List.length_singleton]; omega, by omega⟩, by simp [intOf]; omega⟩
          rw [HW.out]
          simp only [Option.map_map]
          congr 1
          funext y
          simp
      · rw [walkFrom_end hlt] at hw
        have HS := Lib.hid hs; have HW := Lib.hid hw
        clear hs hw
        go_wp2_with fail
        with_reducible refine kc.mono ?_
        clear kc
        rintro e w' ⟨rfl, rfl⟩
        go_wp2
        go_ret2
        refine ⟨_, by rw [HW.out]; rfl, ?_⟩
        rw [HW.out]
        simp only [Option.map_some, List.append_nil, Option.getD_some]
        exact HS.out
end
end Go.Proofs.Ytjijniillehfoaa

/- Blocks of bytes: the reference's calls. -/
namespace Go.Proofs.Ytjijniillehfoaa
open Go Go.RowKit Go.Own
set_option linter.unusedVariables false
set_option maxRecDepth 100000
theorem getV_numAt (b : List UInt8) (o : Nat) : getV b (o : Int) 8 = (numAt b o : Nat) := by
  unfold getV numAt
  by_cases h : o + 8 ≤ b.length
  · rw [if_pos h, if_pos (by omega), Int.toNat_natCast]; rfl
  · rw [if_neg h, if_neg (by omega)]; rfl
theorem ref_Could (w : World) (a : Option Addr) (n c : Nat) (b : List UInt8) (hb : Bs w a n c b) (o s : Int) :
    Calls Try.prog 157 #[.slice a n c, .int .i64 o, .int .i64 s] w fun e w' => e = .returned (.bool (couldB b o s)) ∧ w = w' := by
  have hn := hb.len
  have hcap := Sl.cap hb; have hroom := Sl.room hb
  subst hn
  clear hb
  by_cases g1 : 184 ≤ o
  · have ht := rem16 o (by omega)
    have d1 : decide (184 ≤ o) = true := decide_eq_true g1
    by_cases g2 : o % 16 = 8
    · have d2 : (o % 16 == 8) = true := by rw [beq_iff_eq]; exact g2
      by_cases g3 : o ≤ b.length
      · have d3 : decide (o ≤ (b.length : Int)) = true := decide_eq_true g3
        have e4 : IntKind.i64.wrap ((b.length : Int) - o) = (b.length : Int) - o := IntWalk.i64_in _ (by omega)
        have hc : couldB b o s = decide (s ≤ (b.length : Int) - o) := by
          unfold couldB; rw [decide_eq_decide]; omega
        rw [hc]
        clear g1 g2 hc
        go_enter Try.func157, Try.ntmps157
        go_wp2
        go_ret
        exact ⟨rfl, rfl⟩
      · have d3 : decide (o ≤ (b.length : Int)) = false := decide_eq_false g3
        rw [couldB_no (by omega)]
        clear g1 g2
        go_enter Try.func157, Try.ntmps157
        go_wp2
        go_ret
        exact ⟨rfl, rfl⟩
    · have d2 : (o % 16 == 8) = false := by rw [beq_eq_false_iff_ne]; exact g2
      rw [couldB_no (by omega)]
      clear g1
      go_enter Try.func157, Try.ntmps157
      go_wp2
      go_ret
      exact ⟨rfl, rfl⟩
  · have d1 : decide (184 ≤ o) = false := decide_eq_false g1
    rw [couldB_no (by omega)]
    go_enter Try.func157, Try.ntmps157
    go_wp2
    go_ret
    exact ⟨rfl, rfl⟩
/-- The word at a place that isn't behind the end. -/
theorem ref_Word (w : World) (a : Option Addr) (n c : Nat) (b : List UInt8) (hb : Bs w a n c b) (O : Nat) (o : Int) (ho : o = O) (hO : O ≤ b.length) :
    Calls Try.prog 158 #[.slice a n c, .int .i64 o] w fun e w' => ∃ k, e = .returned (.tuple #[.int .u64 (numAt b O : Nat), .bool k]) ∧ w = w' := by
  subst ho
  have hn := hb.len
  have hcap := Sl.cap hb; have hroom := Sl.room hb
  subst hn
  have kg := ref_Get w a _ c b (O : Int) 8 hb (by omega) (by omega) (by decide) (by decide)
  rw [getV_numAt] at kg
  generalize getOk b (O : Int) 8 = k at *
  clear hb
  go_enter Try.func158, Try.ntmps158
  go_wp2_with fail
  with_reducible refine kg.mono ?_
  clear kg
  rintro e w' ⟨rfl, rfl⟩
  go_wp2
  go_ret2
  exact ⟨_, rfl, rfl⟩
section
variable {B : Nat} {w0 w : World} {l : List Ob}
set_option maxHeartbeats 4000000 in
theorem rb_Get (h : St B w0 w l) (a : Option Addr) (n c : Nat) (b : List UInt8) (hb : ∀ w', St B w0 w' l → Bs w' a n c b) (o : Int) :
    Calls Try.prog 66 #[.slice a n c, .int .i64 o] w fun e w' => e = .returned (.tuple #[bkV (blkI b o), .bool (blkI b o).isSome]) ∧ St B w0 w' l := by
  have hb0 := hb w h
  have hn := hb0.len
  have hcap := Sl.cap hb0; have hroom := Sl.room hb0
  subst hn
  have H := Lib.hid h; have HB := Lib.hid hb
  clear h hb hb0
  by_cases hc : couldB b o 8 = true
  · obtain ⟨c1, c2, c3, c4⟩ := couldB_iff.1 hc
    obtain ⟨O, rfl⟩ := Int.eq_ofNat_of_zero_le (show 0 ≤ o by omega)
    have hgi : blkI b (O : Int) = blkAt b O := by unfold blkI; rw [if_pos (Int.natCast_nonneg _), Int.toNat_natCast]
    rw [hgi]
    have hw := numAt_lt b O
    obtain ⟨W, hW⟩ : ∃ W, W = numAt b O := ⟨_, rfl⟩
    rw [← hW] at hw
    have hO : O ≤ b.length := by omega
    have hO2 : 184 ≤ O := by omega
    have HO := Lib.hid (And.intro c1 (And.intro c2 (And.intro c3 c4)))
    have HWE := Lib.hid hW
    clear c1 c2 c3 c4 hgi hW
    cases ht : isTag (W : Int) with
    | false =>
      have hn : blkAt b O = none := by
        unfold blkAt; rw [if_neg]; intro hh; rw [← HWE.out, ht] at hh; exact absurd hh.2.2.1 Bool.false_ne_true
      rw [hn]
      clear hn
      go_enter Try.func66, Try.ntmps66
      go_wp2_with (refine bk_alloc H.out rfl rfl ?_; intro g w1 h1; have H1 := Lib.hid h1; clear h1)
      have kc := ref_Could _ _ _ _ _ (HB.out _ H1.out.tail) (O : Int) 8
      rw [hc] at kc
      with_reducible refine kc.mono ?_
      clear kc
      rintro e w' ⟨rfl, rfl⟩
      go_wp2_with fail
      have kc := ref_Word _ _ _ _ _ (HB.out _ H1.out.tail) O (O : Int) rfl hO
      rw [← HWE.out] at kc
      with_reducible refine kc.mono ?_
      clear kc
      rintro e w' ⟨k1, rfl, rfl⟩
      go_wp2_with fail
      have kc := ref_Unpack w1 (W : Int) (Int.natCast_nonneg _) (by omega)
      rw [ht] at kc
      with_reducible refine kc.mono ?_
      clear kc
      rintro e w' ⟨rfl, rfl⟩
      clear ht hc
      go_wp2_with (refine bk_store H1.out 0 rfl rfl _ _ rfl rfl 0 0 false rfl ?_; intro w2 h2; have H2 := Lib.hid h2; clear h2)
      refine bodyPost_ret (results_row2 rfl _ _ g _ _ _ rfl (H2.out.row (i := 0) rfl) Try.underlying77 rfl size_bl) rfl ⟨rfl, H2.out.tail⟩
    | true =>
      obtain ⟨t1, t2, t3⟩ := tagS_isTag ht
      obtain ⟨S, hS⟩ := Int.eq_ofNat_of_zero_le (show 0 ≤ tagS W by omega)
      rw [hS] at t1 t2 t3
      have hS2 : S ≤ 16384 := by omega
      have hS1 : 32 ≤ S := by omega
      have hSn : (tagS ((numAt b O : Nat) : Int)).toNat = S := by rw [← HWE.out, hS, Int.toNat_natCast]
      have hb : blkAt b O = if O + S ≤ b.length ∧ numAt b (O + S - 8) = W then some ⟨O, S, tagU W⟩ else none := by
        have := HO.out
        unfold blkAt
        rw [hSn, ← HWE.out, ht]
        by_cases hh : O + S ≤ b.length ∧ numAt b (O + S - 8) = W
        · rw [if_pos ⟨by omega, by omega, rfl, hh⟩, if_pos hh]
        · rw [if_neg (fun h => hh h.2.2.2), if_neg hh]
      obtain ⟨R, hR⟩ : ∃ R, R = blkAt b O := ⟨_, rfl⟩
      rw [← hR]
      have HR := Lib.hid (hR.trans hb)
      clear hb t1 t2 t3 hSn hR
      go_enter Try.func66, Try.ntmps66
      go_wp2_with (refine bk_alloc H.out rfl rfl ?_; intro g w1 h1; have H1 := Lib.hid h1; clear h1)
      have kc := ref_Could _ _ _ _ _ (HB.out _ H1.out.tail) (O : Int) 8
      rw [hc] at kc
      with_reducible refine kc.mono ?_
      clear kc
      rintro e w' ⟨rfl, rfl⟩
      go_wp2_with fail
      have kc := ref_Word _ _ _ _ _ (HB.out _ H1.out.tail) O (O : Int) rfl hO
      rw [← HWE.out] at kc
      with_reducible refine kc.mono ?_
      clear kc
      rintro e w' ⟨k1, rfl, rfl⟩
      go_wp2_with fail
      have kc := ref_Unpack w1 (W : Int) (Int.natCast_nonneg _) (by omega)
      rw [ht, hS] at kc
      with_reducible refine kc.mono ?_
      clear kc
      rintro e w' ⟨rfl, rfl⟩
      clear ht hc hS
      go_wp2_with fail
      have kc := ref_Could _ _ _ _ _ (HB.out _ H1.out.tail) (O : Int) (S : Int)
      by_cases hf : O + S ≤ b.length
      · have hyes : couldB b (O : Int) (S : Int) = true := couldB_iff.2 (by have := HO.out; omega)
        rw [hyes] at kc
        clear hyes
        with_reducible refine kc.mono ?_
        clear kc
        rintro e w' ⟨rfl, rfl⟩
        go_wp2_with fail
        have kc := ref_Word _ _ _ _ _ (HB.out _ H1.out.tail) (O + S - 8) ((O : Int) + S - 8) (by omega) (by omega)
        obtain ⟨V, hV⟩ : ∃ V, V = numAt b (O + S - 8) := ⟨_, rfl⟩
        rw [← hV] at kc
        have HV := Lib.hid hV
        clear hV
        with_reducible refine kc.mono ?_
        clear kc
        rintro e w' ⟨k2, rfl, rfl⟩
        by_cases hv2 : V = W
        · subst hv2
          go_wp2_with (refine bk_store H1.out 0 rfl rfl _ _ rfl rfl (O : Int) (S : Int) (tagU V) rfl ?_; intro w2 h2; have H2 := Lib.hid h2; clear h2)
          refine bodyPost_ret (results_row2 rfl _ _ g _ _ _ rfl (H2.out.row (i := 0) rfl) Try.underlying77 rfl size_bl) rfl ⟨by rw [HR.out, if_pos ⟨hf, HV.out.symm⟩]; rfl, H2.out.tail⟩
        · skip
          go_wp2_with (refine bk_store H1.out 0 rfl rfl _ _ rfl rfl 0 0 false rfl ?_; intro w2 h2; have H2 := Lib.hid h2; clear h2)
          refine bodyPost_ret (results_row2 rfl _ _ g _ _ _ rfl (H2.out.row (i := 0) rfl) Try.underlying77 rfl size_bl) rfl ⟨by rw [HR.out, if_neg (fun h => hv2 (HV.out.trans h.2))]; rfl, H2.out.tail⟩
      · have hno : couldB b (O : Int) (S : Int) = false := couldB_no (by intro h; omega)
        rw [hno] at kc
        clear hno
        with_reducible refine kc.mono ?_
        clear kc
        rintro e w' ⟨rfl, rfl⟩
        go_wp2_with (refine bk_store H1.out 0 rfl rfl _ _ rfl rfl 0 0 false rfl ?_; intro w2 h2; have H2 := Lib.hid h2; clear h2)
        refine bodyPost_ret (results_row2 rfl _ _ g _ _ _ rfl (H2.out.row (i := 0) rfl) Try.underlying77 rfl size_bl) rfl ⟨by rw [HR.out, if_neg (fun h => hf h.1)]; rfl, H2.out.tail⟩
  · have hc : couldB b o 8 = false := by cases hx : couldB b o 8 <;> simp_all
    have hn : blkI b o = none := by
      refine blkI_none ?_
      cases hx : couldB b o 32
      · rfl
      · have := couldB_iff.1 hx
        rw [couldB_iff.2 (by omega)] at hc; cases hc
    rw [hn]
    clear hn
    go_enter Try.func66, Try.ntmps66
    go_wp2_with (refine bk_alloc H.out rfl rfl ?_; intro g w1 h1; have H1 := Lib.hid h1; clear h1)
    have kc := ref_Could _ _ _ _ _ (HB.out _ H1.out.tail) o 8
    rw [hc] at kc
    with_reducible refine kc.mono ?_
    clear kc hc
    rintro e w' ⟨rfl, rfl⟩
    go_wp2_with (refine bk_store H1.out 0 rfl rfl _ _ rfl rfl 0 0 false rfl ?_; intro w2 h2; have H2 := Lib.hid h2; clear h2)
    refine bodyPost_ret (results_row2 rfl _ _ g _ _ _ rfl (H2.out.row (i := 0) rfl) Try.underlying77 rfl size_bl) rfl ⟨rfl, H2.out.tail⟩
end
end Go.Proofs.Ytjijniillehfoaa

/- Blocks of bytes: the reference's Ahead and Walk. -/
namespace Go.Proofs.Ytjijniillehfoaa
open Go Go.RowKit Go.Own
set_option linter.unusedVariables false
set_option maxRecDepth 100000
section
variable {B : Nat} {w0 w : World} {l : List Ob}
set_option maxHeartbeats 4000000 in
theorem rb_Ahead (h : St B w0 w l) (a : Option Addr) (n c : Nat) (b : List UInt8) (hb : ∀ w', St B w0 w' l → Bs w' a n c b) (hsm : b.length ≤ 4611686018427387904) (o : Int) :
    Calls Try.prog 67 #[.slice a n c, .int .i64 o] w fun e w' => e = .returned (.tuple #[bkV (aheadI b o), .bool (aheadI b o).isSome]) ∧ St B w0 w' l := by
  have hb0 := hb w h
  have hn := hb0.len
  have hcap := Sl.cap hb0; have hroom := Sl.room hb0
  subst hn
  have H := Lib.hid h; have HB := Lib.hid hb
  clear h hb hb0
  by_cases c1 : 184 ≤ o
  · by_cases c2 : o ≤ b.length
    · obtain ⟨O, rfl⟩ := Int.eq_ofNat_of_zero_le (show 0 ≤ o by omega)
      have hO1 : 184 ≤ O := by omega
      have hO2 : O ≤ b.length := by omega
      have hw := numAt_lt b (O - 8)
      obtain ⟨W, hW⟩ : ∃ W, W = numAt b (O - 8) := ⟨_, rfl⟩
      rw [← hW] at hw
      have HWE := Lib.hid hW
      clear c1 c2 hW
      cases ht : isTag (W : Int) with
      | false =>
        rw [ahead_none HWE.out ht]
        go_enter Try.func67, Try.ntmps67
        go_wp2_with (refine bk_alloc H.out rfl rfl ?_; intro g w1 h1; have H1 := Lib.hid h1; clear h1)
        have kc := ref_Word _ _ _ _ _ (HB.out _ H1.out.tail) (O - 8) ((O : Int) - 8) (by omega) (by omega)
        rw [← HWE.out] at kc
        with_reducible refine kc.mono ?_
        clear kc
        rintro e w' ⟨k0, rfl, rfl⟩
        go_wp2_with fail
        have kc := ref_Unpack w1 (W : Int) (Int.natCast_nonneg _) (by omega)
        rw [ht] at kc
        with_reducible refine kc.mono ?_
        clear kc
        rintro e w' ⟨rfl, rfl⟩
        clear ht
        go_wp2_with (refine bk_store H1.out 0 rfl rfl _ _ rfl rfl 0 0 false rfl ?_; intro w2 h2; have H2 := Lib.hid h2; clear h2)
        refine bodyPost_ret (results_row2 rfl _ _ g _ _ _ rfl (H2.out.row (i := 0) rfl) Try.underlying77 rfl size_bl) rfl ⟨rfl, H2.out.tail⟩
      | true =>
        obtain ⟨t1, t2, t3⟩ := tagS_isTag ht
        obtain ⟨S, hS⟩ := Int.eq_ofNat_of_zero_le (show 0 ≤ tagS W by omega)
        rw [hS] at t1 t2 t3
        have hS2 : S ≤ 16384 := by omega
        obtain ⟨U, hU⟩ : ∃ U, U = tagU (W : Int) := ⟨_, rfl⟩
        have HU := Lib.hid hU
        obtain ⟨R, hR⟩ : ∃ R, R = aheadI b (O : Int) := ⟨_, rfl⟩
        rw [← hR]
        have hR2 := hR.trans (ahead_eq hO1 hO2 HWE.out ht hS)
        obtain ⟨X, hX⟩ : ∃ X, X = blkI b ((O : Int) - S) := ⟨_, rfl⟩
        rw [← hX, ← hU] at hR2
        clear hU
        have HX := Lib.hid hX
        clear hR t1 t2 t3 hX
        cases X with
        | none =>
          simp only at hR2
          subst hR2
          go_enter Try.func67, Try.ntmps67
          go_wp2_with (refine bk_alloc H.out rfl rfl ?_; intro g w1 h1; have H1 := Lib.hid h1; clear h1)
          have kc := ref_Word _ _ _ _ _ (HB.out _ H1.out.tail) (O - 8) ((O : Int) - 8) (by omega) (by omega)
          rw [← HWE.out] at kc
          with_reducible refine kc.mono ?_
          clear kc
          rintro e w' ⟨k0, rfl, rfl⟩
          go_wp2_with fail
          have kc := ref_Unpack w1 (W : Int) (Int.natCast_nonneg _) (by omega)
          rw [ht, hS] at kc
          with_reducible refine kc.mono ?_
          clear kc
          rintro e w' ⟨rfl, rfl⟩
          clear ht hS
          go_wp2_with fail
          have kc := rb_Get H1.out a _ c b (fun w' h => HB.out _ h.tail) ((O : Int) - S)
          rw [← HX.out, show bkV none = .agg #[.int .i64 0, .int .i64 0, .bool false] from rfl, show (none : Option Blk).isSome = false from rfl] at kc
          with_reducible refine kc.mono ?_
          clear kc
          rintro e w3 ⟨rfl, h3⟩
          have H3 := Lib.hid h3
          clear h3
          go_wp2_with (first | (refine bk_alloc H3.out rfl rfl ?_; intro g4 w4 h4; have H4 := Lib.hid h4; clear h4) | (refine bk_store H4.out 0 rfl rfl _ _ rfl rfl 0 0 false rfl ?_; intro w5 h5; have H5 := Lib.hid h5; clear h5 H4) | (refine bk_store H5.out 1 rfl rfl _ _ rfl rfl 0 0 false rfl ?_; intro w2 h2; have H2 := Lib.hid h2; clear h2))
          refine bodyPost_ret (results_row2 rfl _ _ g _ _ _ rfl (H2.out.row (i := 1) rfl) Try.underlying77 rfl size_bl) rfl ⟨rfl, H2.out.tail.tail⟩
        | some x =>
          have hx := HX.out
          have hxb : 0 ≤ (x.off : Int) ∧ x.size ≤ 16384 := by
            unfold blkI at hx
            split at hx
            · have := blkAt_some hx.symm; omega
            · cases hx
          obtain ⟨hxb1, hxb2⟩ := hxb
          clear hx
          have HR := Lib.hid hR2
          clear hR2
          go_enter Try.func67, Try.ntmps67
          go_wp2_with (refine bk_alloc H.out rfl rfl ?_; intro g w1 h1; have H1 := Lib.hid h1; clear h1)
          have kc := ref_Word _ _ _ _ _ (HB.out _ H1.out.tail) (O - 8) ((O : Int) - 8) (by omega) (by omega)
          rw [← HWE.out] at kc
          with_reducible refine kc.mono ?_
          clear kc
          rintro e w' ⟨k0, rfl, rfl⟩
          go_wp2_with fail
          have kc := ref_Unpack w1 (W : Int) (Int.natCast_nonneg _) (by omega)
          rw [ht, hS, ← HU.out] at kc
          with_reducible refine kc.mono ?_
          clear kc
          rintro e w' ⟨rfl, rfl⟩
          clear ht hS
          go_wp2_with fail
          have kc := rb_Get H1.out a _ c b (fun w' h => HB.out _ h.tail) ((O : Int) - S)
          rw [← HX.out, show bkV (some x) = .agg #[.int .i64 x.off, .int .i64 x.size, .bool x.used] from rfl, show (some x).isSome = true from rfl] at kc
          with_reducible refine kc.mono ?_
          clear kc
          rintro e w3 ⟨rfl, h3⟩
          have H3 := Lib.hid h3
          clear h3
          by_cases q1 : x.size = S
          · subst q1
            by_cases q2 : x.used = U
            · subst q2
              go_wp2_with (first | (refine bk_alloc H3.out rfl rfl ?_; intro g4 w4 h4; have H4 := Lib.hid h4; clear h4) | (refine bk_store H4.out 0 rfl rfl _ _ rfl rfl (x.off : Int) (x.size : Int) x.used rfl ?_; intro w5 h5; have H5 := Lib.hid h5; clear h5 H4; have k1 : w5.cell? ⟨g4, 1, none⟩ = some (.int .i64 x.size) := (H5.out.row (i := 0) rfl).cell 1; have k2 : w5.cell? ⟨g4, 2, none⟩ = some (.bool x.used) := (H5.out.row (i := 0) rfl).cell 2) | (refine bk_load H5.out 0 rfl rfl _ rfl rfl ?_) | (refine bk_store H5.out 1 rfl rfl _ _ rfl rfl (x.off : Int) (x.size : Int) x.used rfl ?_; intro w2 h2; have H2 := Lib.hid h2; clear h2))
              refine bodyPost_ret (results_row2 rfl _ _ g _ _ _ rfl (H2.out.row (i := 1) rfl) Try.underlying77 rfl size_bl) rfl ⟨by rw [HR.out]; simp only; rw [if_pos ⟨trivial, trivial⟩]; rfl, H2.out.tail.tail⟩
            · have hq : U = !x.used := by revert q2; cases x.used <;> cases U <;> simp
              subst hq
              have HQ := Lib.hid q2
              clear q2
              go_wp2_with (first | (refine bk_alloc H3.out rfl rfl ?_; intro g4 w4 h4; have H4 := Lib.hid h4; clear h4) | (refine bk_store H4.out 0 rfl rfl _ _ rfl rfl (x.off : Int) (x.size : Int) x.used rfl ?_; intro w5 h5; have H5 := Lib.hid h5; clear h5 H4; have k1 : w5.cell? ⟨g4, 1, none⟩ = some (.int .i64 x.size) := (H5.out.row (i := 0) rfl).cell 1; have k2 : w5.cell? ⟨g4, 2, none⟩ = some (.bool x.used) := (H5.out.row (i := 0) rfl).cell 2) | (refine bk_store H5.out 1 rfl rfl _ _ rfl rfl 0 0 false rfl ?_; intro w2 h2; have H2 := Lib.hid h2; clear h2))
              refine bodyPost_ret (results_row2 rfl _ _ g _ _ _ rfl (H2.out.row (i := 1) rfl) Try.underlying77 rfl size_bl) rfl ⟨by rw [HR.out]; simp only; rw [if_neg (fun h => HQ.out h.2)]; rfl, H2.out.tail.tail⟩
          · have q1i : ¬ ((x.size : Int) = (S : Int)) := by omega
            have HQ := Lib.hid q1
            clear q1
            go_wp2_with (first | (refine bk_alloc H3.out rfl rfl ?_; intro g4 w4 h4; have H4 := Lib.hid h4; clear h4) | (refine bk_store H4.out 0 rfl rfl _ _ rfl rfl (x.off : Int) (x.size : Int) x.used rfl ?_; intro w5 h5; have H5 := Lib.hid h5; clear h5 H4; have k1 : w5.cell? ⟨g4, 1, none⟩ = some (.int .i64 x.size) := (H5.out.row (i := 0) rfl).cell 1; have k2 : w5.cell? ⟨g4, 2, none⟩ = some (.bool x.used) := (H5.out.row (i := 0) rfl).cell 2) | (refine bk_store H5.out 1 rfl rfl _ _ rfl rfl 0 0 false rfl ?_; intro w2 h2; have H2 := Lib.hid h2; clear h2))
            refine bodyPost_ret (results_row2 rfl _ _ g _ _ _ rfl (H2.out.row (i := 1) rfl) Try.underlying77 rfl size_bl) rfl ⟨by rw [HR.out]; simp only; rw [if_neg (fun h => HQ.out h.1)]; rfl, H2.out.tail.tail⟩
    · rw [ahead_out (fun h => c2 h.2)]
      have c3 : (b.length : Int) < o := by omega
      clear c2
      go_enter Try.func67, Try.ntmps67
      go_wp2_with (first | (refine bk_alloc H.out rfl rfl ?_; intro g w1 h1; have H1 := Lib.hid h1; clear h1) | (refine bk_store H1.out 0 rfl rfl _ _ rfl rfl 0 0 false rfl ?_; intro w2 h2; have H2 := Lib.hid h2; clear h2))
      refine bodyPost_ret (results_row2 rfl _ _ g _ _ _ rfl (H2.out.row (i := 0) rfl) Try.underlying77 rfl size_bl) rfl ⟨rfl, H2.out.tail⟩
  · rw [ahead_out (fun h => c1 h.1)]
    have c3 : o < 184 := by omega
    clear c1
    go_enter Try.func67, Try.ntmps67
    go_wp2_with (first | (refine bk_alloc H.out rfl rfl ?_; intro g w1 h1; have H1 := Lib.hid h1; clear h1) | (refine bk_store H1.out 0 rfl rfl _ _ rfl rfl 0 0 false rfl ?_; intro w2 h2; have H2 := Lib.hid h2; clear h2))
    refine bodyPost_ret (results_row2 rfl _ _ g _ _ _ rfl (H2.out.row (i := 0) rfl) Try.underlying77 rfl size_bl) rfl ⟨rfl, H2.out.tail⟩
set_option maxHeartbeats 4000000 in
theorem rb_Walk (h : St B w0 w l) (a : Option Addr) (n c : Nat) (b : List UInt8) (hb : ∀ w', St B w0 w' l → Bs w' a n c b) (hsm : b.length ≤ 16384) :
    Calls Try.prog 68 #[.slice a n c] w fun e w' => ∃ v, e = .returned (.tuple #[v, .bool (walkB b).isSome]) ∧ St B w0 w' (BlsO v ((walkB b).getD []) :: l) := by
  have hb0 := hb w h
  have hn := hb0.len
  have hcap := Sl.cap hb0; have hroom := Sl.room hb0
  subst hn
  have hs0 : St B w0 w (BlsO (.slice none 0 0) [] :: l) := h.addOwn (Below.refl _ _) (World.ownsRow_nil _ _ _ _)
  have H0 := Lib.hid hs0; have HB := Lib.hid hb
  by_cases c1 : b.length < 184
  · have hn : walkB b = none := by unfold walkB; rw [if_pos c1]
    rw [hn]
    clear hs0 h hb hb0 hn
    go_enter Try.func68, Try.ntmps68
    go_wp2
    go_ret2
    exact ⟨_, rfl, H0.out⟩
  · obtain ⟨R, hR⟩ : ∃ R, R = walkB b := ⟨_, rfl⟩
    rw [← hR]
    have hR2 : R = (walkFrom b b.length 184).map ([] ++ ·) := by
      rw [hR]; unfold walkB; rw [if_neg c1]
      cases walkFrom b b.length 184 <;> rfl
    have HR := Lib.hid hR2
    have hc : 184 ≤ b.length := by omega
    clear hs0 h hb hb0 hR hR2 c1
    go_enter Try.func68, Try.ntmps68
    go_wp2
    go_loopw [4, 5] (fun va vo wr => ∃ (f O : Nat) (L : List Blk), vo = .int .i64 O ∧ 184 ≤ O ∧ St B w0 wr (BlsO va L :: l) ∧ R = (walkFrom b f O).map (L ++ ·) ∧ b.length ≤ f + O ∧ L.length ≤ O ∧ O ≤ 40000) (fun _ vo _ => 100000 - (intOf vo).toNat)
    case atStart => exact ⟨_, 184, [], rfl, Nat.le_refl _, H0.out, HR.out, by omega, Nat.zero_le _, by omega⟩
    case round =>
      obtain ⟨f, O, L, rfl, hO, hs, hw, hf, hL, hO4⟩ := hrel
      by_cases hlt : O < b.length
      · obtain ⟨f', rfl⟩ : ∃ f', f = f' + 1 := ⟨f - 1, by omega⟩
        rw [walkFrom_step hlt] at hw
        obtain ⟨X, hX⟩ : ∃ X, X = blkAt b O := ⟨_, rfl⟩
        rw [← hX] at hw
        have kg := rb_Get hs a _ c b (fun w' h => HB.out _ h.tail) (O : Int)
        rw [show blkI b (O : Int) = X by unfold blkI; rw [if_pos (Int.natCast_nonneg _), Int.toNat_natCast, hX]] at kg
        clear hs
        cases X with
        | none =>
          simp only [Option.map_none] at hw
          subst hw
          rw [show bkV none = .agg #[.int .i64 0, .int .i64 0, .bool false] from rfl, show (none : Option Blk).isSome = false from rfl] at kg
          clear hX
          go_wp2_with fail
          with_reducible refine kg.mono ?_
          clear kg
          rintro e w3 ⟨rfl, h3⟩
          have H3 := Lib.hid h3
          clear h3
          go_wp2_with (first | (refine bk_alloc H3.out rfl rfl ?_; intro g4 w4 h4; have H4 := Lib.hid h4; clear h4) | (refine bk_store H4.out 0 rfl rfl _ _ rfl rfl 0 0 false rfl ?_; intro w5 h5; have H5 := Lib.hid h5; clear h5 H4))
          go_ret2
          have h6 := H5.out.tail.tail
          exact ⟨_, rfl, h6.addOwn (Below.refl _ _) (World.ownsRow_nil _ _ _ _)⟩
        | some x =>
          obtain ⟨x1, x2, x3, x4, x5, x6, x7, x8⟩ := blkAt_some hX.symm
          rw [show bkV (some x) = .agg #[.int .i64 x.off, .int .i64 x.size, .bool x.used] from rfl, show (some x).isSome = true from rfl] at kg
          have HW := Lib.hid hw; have HX1 := Lib.hid x1
          have hL2 : L.length ≤ 1000000 := by omega
          clear hX hw x1 x3 x6 x8
          go_wp2_with fail
          with_reducible refine kg.mono ?_
          clear kg
          rintro e w3 ⟨rfl, h3⟩
          have H3 := Lib.hid h3
          clear h3
          go_wp2_with (first | (refine bk_alloc H3.out rfl rfl ?_; intro g4 w4 h4; have H4 := Lib.hid h4; clear h4) | (refine bk_store H4.out 0 rfl rfl _ _ rfl rfl (x.off : Int) (x.size : Int) x.used rfl ?_; intro w5 h5; have H5 := Lib.hid h5; clear h5 H4) | (refine bk_load H5.out 0 rfl rfl _ rfl rfl ?_) | (at_builtin; go_must (refine bls_app H5.out 1 rfl rfl (.tmp 23) (.tmp 25) rfl rfl x.off x.size x.used x rfl rfl rfl rfl hL2 ?_; intro v6 w6 h6; have H6 := Lib.hid h6; clear h6; have k1 : w6.cell? ⟨g4, 1, none⟩ = some (.int .i64 x.size) := (H6.out.row (i := 0) rfl).cell 1)))
          refine ⟨⟨f', O + x.size, L ++ [x], by go_num, by omega, H6.out.tail, ?_, by omega, by rw [List.length_append, List.length_singleton]; omega, by omega⟩, by simp [intOf]; omega⟩
          rw [HW.out]
          simp only [Option.map_map]
          congr 1
          funext y
          simp
      · rw [walkFrom_end hlt] at hw
        have HS := Lib.hid hs; have HW := Lib.hid hw
        clear hs hw
        go_wp2
        go_ret2
        refine ⟨_, by rw [HW.out]; rfl, ?_⟩
        rw [HW.out]
        simp only [Option.map_some, List.append_nil, Option.getD_some]
        exact HS.out
end
end Go.Proofs.Ytjijniillehfoaa

/- A region that draws its order: what its reads are to yield hangs on one condition on the world, which every heavy operation is to bring about anew. -/
namespace Go.Own
open Go Go.RowKit
def FlowS (P : Program) (ops : List Oper) (Q : Exit → Act → World → Prop) (S : World → Prop) (fuel : Nat) (listed : Array Bool) (a : Act) (W : World) : Prop :=
  PanicsSame Q ∧ (S W → wpAnyH P .any ops.toArray Q S fuel listed a W)
section
variable {P : Program} {ops : List Oper} {Q : Exit → Act → World → Prop} {S : World → Prop} {fuel : Nat} {listed : Array Bool} {a a' : Act} {W : World}
theorem flows_begin {id : Nat} {l : List Oper} (hm : P.follows .mixedOrders = true) (n : Nat) (hn : l.length = n) (hq : PanicsSame Q) (hS : S W.drew) (h : PanicsSame Q → FlowS P l Q S n (List.replicate n false).toArray a W.drew) : (Code.region id l.toArray true).wp P Q a W := by
  subst hn
  refine wp_region_held (S := S) hm ?_
  have := (h hq).2 hS
  simpa using this
theorem flows_take (i : Nat) {oi : Oper} {v : Value} (hp : PanicsSame Q) (hi : (ops.drop i).head? = some oi) (hc : (Region.noSelect ops.toArray && Region.free .any ops.toArray listed i && (Region.ready .any ops.toArray listed).contains i) = true)
    (hw : Region.wanted oi (yielded ops.toArray a.tmps) = true) (hrun : ∀ w, S w → (execOp a.eval oi).run P w = .ok (.value v) w) (ha : a.put oi.dst v = a')
    (h : FlowS P ops Q S fuel (listed.setIfInBounds i true) a' W) : FlowS P ops Q S (fuel + 1) listed a W := by
  subst ha
  simp only [Bool.and_eq_true] at hc
  exact ⟨hp, fun hS => wpAnyH_take (at_of hi) hc.1.1 hc.1.2 hc.2 (fun c a' w' q => hp c _ _ _ (put_defers _ _ _) q) (.inl ⟨hw, fun w' k' => hrun w' k'⟩) hS (h.2 hS)⟩
theorem flows_skip (i : Nat) {oi : Oper} (hp : PanicsSame Q) (hi : (ops.drop i).head? = some oi) (hc : (Region.noSelect ops.toArray && Region.free .any ops.toArray listed i && (Region.ready .any ops.toArray listed).contains i) = true)
    (hw : Region.wanted oi (yielded ops.toArray a.tmps) = false) (ha : a.put oi.dst undef = a')
    (h : FlowS P ops Q S fuel (listed.setIfInBounds i true) a' W) : FlowS P ops Q S (fuel + 1) listed a W := by
  subst ha
  simp only [Bool.and_eq_true] at hc
  exact ⟨hp, fun hS => wpAnyH_take (at_of hi) hc.1.1 hc.1.2 hc.2 (fun c a' w' q => hp c _ _ _ (put_defers _ _ _) q) (.inr ⟨hw, rfl⟩) hS (h.2 hS)⟩
theorem flows_one (i : Nat) {oi : Oper} (hp : PanicsSame Q) (hi : (ops.drop i).head? = some oi) (hr : Region.ready .any ops.toArray listed = [i]) (hw : Region.wanted oi (yielded ops.toArray a.tmps) = true)
    (h : oi.wp P a W (fun a' w' => S w' ∧ FlowS P ops Q S fuel (listed.setIfInBounds i true) a' w') Q) : FlowS P ops Q S (fuel + 1) listed a W :=
  ⟨hp, fun _ => wpAnyH_all hr (by simp) fun j hj => by
    obtain rfl : j = i := by simpa using hj
    refine wpOp_mono (K := fun a' w' => S w' ∧ FlowS P ops Q S fuel (listed.setIfInBounds j true) a' w') (fun a' w' h' => ⟨h'.1, h'.2.2 h'.1⟩) ?_
    unfold wpOp
    simp only [at_of hi, hw, if_true]
    exact .inl h⟩
theorem flows_any (rs : List Nat) (hp : PanicsSame Q) (hr : Region.ready .any ops.toArray listed = rs) (hne : rs ≠ [])
    (h : ∀ i ∈ rs, ∃ oi, (ops.drop i).head? = some oi ∧ Region.wanted oi (yielded ops.toArray a.tmps) = true ∧
      oi.wp P a W (fun a' w' => S w' ∧ FlowS P ops Q S fuel (listed.setIfInBounds i true) a' w') Q) : FlowS P ops Q S (fuel + 1) listed a W :=
  ⟨hp, fun _ => wpAnyH_all hr hne fun j hj => by
    obtain ⟨oi, hi, hw, h⟩ := h j hj
    refine wpOp_mono (K := fun a' w' => S w' ∧ FlowS P ops Q S fuel (listed.setIfInBounds j true) a' w') (fun a' w' h' => ⟨h'.1, h'.2.2 h'.1⟩) ?_
    unfold wpOp
    simp only [at_of hi, hw, if_true]
    exact .inl h⟩
theorem flows_done (hp : PanicsSame Q) (hr : Region.ready .any ops.toArray listed = []) (h : Q .normal a W) : FlowS P ops Q S fuel listed a W :=
  ⟨hp, fun _ => wpAnyH_done hr h fuel⟩
end
end Go.Own

/- Blocks of an arena: the program's Set. -/
namespace Go.Own
open Go Go.RowKit
theorem St.apart {B : Nat} {w0 w : World} {l : List Ob} {i j g p : Nat} {e T e' : TypeId} {cs : List Value} {A : Ar} {v : Value} (h : St B w0 w l) (hi : l[i]? = some (RowO g e cs)) (hj : l[j]? = some (ArO T e' p A)) (hij : i < j) (ha : ArAt T e' w p A v) :
    ¬ v.ownBlock = some g := by
  obtain ⟨F, G, ⟨_, hF, _⟩, ⟨v', ha', hG, _⟩, hd⟩ := h.two hi hj hij
  have e1 := ha.row; have e2 := ha'.row
  unfold Row at e1 e2
  rw [e1] at e2
  injection e2 with e2; injection e2 with e2
  have e3 : v = v' := by simpa using e2
  subst e3
  intro hv
  exact hd g hF (hG g (.inr hv))
/-- Both tags are laid, if such a block may be there. -/
def setI (b : List UInt8) (o s : Int) (u : Bool) : Option (List UInt8) := if isSize s = true ∧ couldB b o s = true then some (setB b ⟨o.toNat, s.toNat, u⟩) else none
end Go.Own
namespace Go.Proofs.Ytjijniillehfoaa
open Go Go.RowKit Go.Own
set_option linter.unusedVariables false
set_option maxRecDepth 100000
def errS (x : Option (List UInt8)) : Value := match x with | none => .iface 183 (.int .i64 1) | some _ => .nilIface
section
variable {B : Nat} {w0 w : World} {l : List Ob} {i p : Nat} {A : Ar}
set_option maxHeartbeats 4000000 in
theorem blk_Set (h : St B w0 w l) (hi : l[i]? = some (ArT p A)) (o s : Int) (u : Bool) :
    Calls Try.prog 61 #[arP p, .agg #[.int .i64 o, .int .i64 s, .bool u]] w fun e w' => e = .returned (errS (setI A.b o s u)) ∧ St B w0 w' (l.set i (ArT p { A with b := (setI A.b o s u).getD A.b })) := by
  obtain ⟨hsm, hbs⟩ := ar_small h hi
  have H := Lib.hid h; have HI := Lib.hid hi
  clear h hi
  cases hz : isSize s with
  | false =>
    have hn : setI A.b o s u = none := by unfold setI; rw [if_neg (fun h => by rw [hz] at h; exact Bool.false_ne_true h.1)]
    have hS : (ArT p { A with b := (none : Option (List UInt8)).getD A.b }) = ArT p A := rfl
    rw [hn, hS, set_same HI.out]
    have ht : tagOf s u = 0 := tagOf_zero.2 hz
    clear hn hS hz
    go_enter Try.func61, Try.ntmps61
    go_wp2_with fail
    have h1 := H.out.addRow 77 [.int .i64 o, .int .i64 s, .bool u]
    generalize w.alloc (Obj.cells #[Value.int IntKind.i64 o, Value.int IntKind.i64 s, Value.bool u] 77 (0, 0)) = w1 at h1 ⊢
    generalize w.heap.size = g at h1 ⊢
    have H1 := Lib.hid h1
    clear h1
    have kc := tag_Pack w1 s u
    rw [ht] at kc
    with_reducible refine kc.mono ?_
    clear kc ht
    rintro e w' ⟨rfl, rfl⟩
    go_wp2
    go_ret
    exact ⟨rfl, H1.out.tail⟩
  | true =>
    have hx := tagOf_rng s u
    have hx0 : tagOf s u ≠ 0 := fun h => by rw [tagOf_zero.1 h] at hz; cases hz
    obtain ⟨X, hX⟩ : ∃ X : Nat, tagOf s u = X := ⟨(tagOf s u).toNat, by omega⟩
    have hX0 : ((X : Int) == 0) = false := by rw [beq_eq_false_iff_ne]; omega
    have hX1 : X ≤ 16385 := by omega
    have hzz := (isSize_iff s).1 hz
    cases hc : couldB A.b o s with
    | false =>
      have hn : setI A.b o s u = none := by unfold setI; rw [if_neg (fun h => by rw [hc] at h; exact Bool.false_ne_true h.2)]
      have hS : (ArT p { A with b := (none : Option (List UInt8)).getD A.b }) = ArT p A := rfl
      rw [hn, hS, set_same HI.out]
      clear hn hS hz hzz hx hx0
      go_enter Try.func61, Try.ntmps61
      go_wp2_with fail
      have h1 := H.out.addRow 77 [.int .i64 o, .int .i64 s, .bool u]
      generalize w.alloc (Obj.cells #[Value.int IntKind.i64 o, Value.int IntKind.i64 s, Value.bool u] 77 (0, 0)) = w1 at h1 ⊢
      generalize w.heap.size = g at h1 ⊢
      have H1 := Lib.hid h1
      clear h1
      have kc := tag_Pack w1 s u
      rw [hX] at kc
      with_reducible refine kc.mono ?_
      clear kc hX
      rintro e w' ⟨rfl, rfl⟩
      have c0 : w1.cell? ⟨g, 0, none⟩ = some (.int .i64 o) := (H1.out.row (i := 0) rfl).cell 0
      have c1 : w1.cell? ⟨g, 1, none⟩ = some (.int .i64 s) := (H1.out.row (i := 0) rfl).cell 1
      have kc := blk_fits H1.out (i := i + 1) HI.out o s
      rw [hc] at kc
      go_wp2_with fail
      with_reducible refine kc.mono ?_
      clear kc hc
      rintro e w' ⟨rfl, rfl⟩
      go_wp2
      go_ret
      exact ⟨rfl, H1.out.tail⟩
    | true =>
      obtain ⟨c1, c2, c3, c4⟩ := couldB_iff.1 hc
      obtain ⟨O, ho⟩ := Int.eq_ofNat_of_zero_le (show 0 ≤ o by omega)
      obtain ⟨S, hs⟩ := Int.eq_ofNat_of_zero_le (show 0 ≤ s by omega)
      have hOS : O + S ≤ A.b.length := by omega
      have hn : setI A.b o s u = some (layAt (layAt A.b O X) (O + S - 8) X) := by
        unfold setI setB tagB
        rw [if_pos ⟨hz, hc⟩]
        simp only
        rw [show o.toNat = O by omega, show s.toNat = S by omega, ← hs, hX, Int.toNat_natCast]
      rw [hn]
      simp only [Option.getD_some]
      rw [show errS (some (layAt (layAt A.b O X) (O + S - 8) X)) = .nilIface from rfl]
      have ho1 : 184 ≤ o := by omega
      have ho2 : o ≤ 16384 := by omega
      have hs1 : 32 ≤ s := by omega
      have hs2 : s ≤ 16384 := by omega
      have HOS := Lib.hid (And.intro ho (And.intro hs hOS))
      have HC := Lib.hid hc
      clear hn hz hzz hx hx0 c1 c2 c3 c4 hOS ho hs
      go_enter Try.func61, Try.ntmps61
      go_wp2_with fail
      have h1 := H.out.addRow 77 [.int .i64 o, .int .i64 s, .bool u]
      generalize w.alloc (Obj.cells #[Value.int IntKind.i64 o, Value.int IntKind.i64 s, Value.bool u] 77 (0, 0)) = w1 at h1 ⊢
      generalize w.heap.size = g at h1 ⊢
      have H1 := Lib.hid h1
      clear h1
      have kc := tag_Pack w1 s u
      rw [hX] at kc
      with_reducible refine kc.mono ?_
      clear kc hX
      rintro e w' ⟨rfl, rfl⟩
      have c0 : w1.cell? ⟨g, 0, none⟩ = some (.int .i64 o) := (H1.out.row (i := 0) rfl).cell 0
      have c1 : w1.cell? ⟨g, 1, none⟩ = some (.int .i64 s) := (H1.out.row (i := 0) rfl).cell 1
      have kc := blk_fits H1.out (i := i + 1) HI.out o s
      rw [hc] at kc
      go_wp2_with fail
      with_reducible refine kc.mono ?_
      clear kc hc
      rintro e w' ⟨rfl, rfl⟩
      go_wp2
      clear c0 c1
      obtain ⟨v, hva, hto⟩ := H1.out.drew.arTo (i := i + 1) HI.out
      have HNE := Lib.hid (H1.out.drew.apart (i := 0) (j := i + 1) rfl HI.out (by omega) hva)
      have HR := Lib.hid (H1.out.drew.row (i := 0) rfl)
      have HV := Lib.hid hva; have HTO := Lib.hid hto
      have u0 : IntKind.u64.wrap o = o := IntWalk.u64_in _ (by omega)
      have u1 : IntKind.u64.wrap ((A.base : Int) + o) = (A.base : Int) + o := IntWalk.u64_in _ (by omega)
      clear hva hto
      refine flowe_begin (F := fun k => v.ownBlock = some k) hmixed 10 rfl (by repeat (first | with_reducible refine ps_then ?_ | with_reducible refine ps_block ?_ | with_reducible exact ps_body | refine ps_then ?_ | refine ps_block ?_ | exact ps_body)) (fun hps => ?_)
      simp only [List.replicate]
      have kk := (Keep.refl (fun k => v.ownBlock = some k) (w1)).drew
      refine flowe_take 0 (v := ?_) (a' := ?_) hps rfl (by kernel_rfl) rfl ?_ ?_ ?_
      rotate_left 2
      · intro w' hk; go_simp; try rfl
      · simp only [Act.put, List.setIfInBounds_toArray, List.set_cons_succ, List.set_cons_zero]; try rfl
      refine flowe_take 1 (v := ?_) (a' := ?_) hps rfl (by kernel_rfl) rfl ?_ ?_ ?_
      rotate_left 2
      · intro w' hk; go_simp; try rfl
      · simp only [Act.put, List.setIfInBounds_toArray, List.set_cons_succ, List.set_cons_zero]; try rfl
      refine flowe_take 3 (v := ?_) (a' := ?_) hps rfl (by kernel_rfl) rfl ?_ ?_ ?_
      rotate_left 2
      · intro w' hk; go_simp; try rfl
      · simp only [Act.put, List.setIfInBounds_toArray, List.set_cons_succ, List.set_cons_zero]; try rfl
      refine flowe_take 4 (v := ?_) (a' := ?_) hps rfl (by kernel_rfl) rfl ?_ ?_ ?_
      rotate_left 2
      · intro w' hk; have hr := (HR.out.keep hk HNE.out).cell 0; simp only [List.getElem?_cons_succ, List.getElem?_cons_zero] at hr; go_simp; try rfl
      · simp only [Act.put, List.setIfInBounds_toArray, List.set_cons_succ, List.set_cons_zero]; try rfl
      refine flowe_take 5 (v := ?_) (a' := ?_) hps rfl (by kernel_rfl) rfl ?_ ?_ ?_
      rotate_left 2
      · intro w' hk; go_simp; try rfl
      · simp only [Act.put, List.setIfInBounds_toArray, List.set_cons_succ, List.set_cons_zero]; try rfl
      refine flowe_take 7 (v := ?_) (a' := ?_) hps rfl (by kernel_rfl) rfl ?_ ?_ ?_
      rotate_left 2
      · intro w' hk; go_simp; try rfl
      · simp only [Act.put, List.setIfInBounds_toArray, List.set_cons_succ, List.set_cons_zero]; try rfl
      refine flowe_one 2 hps rfl (by kernel_rfl) rfl (wp_next (fun K hK => ?_))
      go_simp
      have kc := arena_Base _ p A v HV.out
      with_reducible refine kc.mono ?_
      clear kc
      rintro e w' ⟨rfl, rfl⟩
      refine hK _ _ (flow_step kk ?_ ?_)
      · first | exact kp | exact Keep.refl _ _ | exact (Keep.refl _ _).alloc _
      clear kk hK; try clear kp
      intro kk
      refine flowe_take 6 (v := ?_) (a' := ?_) hps rfl (by kernel_rfl) rfl ?_ ?_ ?_
      rotate_left 2
      · intro w' hk; go_simp; try rfl
      · simp only [Act.put, List.setIfInBounds_toArray, List.set_cons_succ, List.set_cons_zero]; try rfl
      refine flowe_one 8 hps rfl (by kernel_rfl) rfl (wp_next (fun K hK => ?_))
      go_simp
      have kc := arena_SetWord_ok _ p A v HV.out ((A.base : Int) + o) O (by have := HOS.out; omega) (X : Int) X rfl (by omega) (by have := HOS.out; omega)
      with_reducible refine kc.mono ?_
      clear kc
      rintro e w2 ⟨rfl, hv2, k2⟩
      have HV2 := Lib.hid hv2
      have h2 := HTO.out _ _ v hv2 (k2.mono fun _ _ h => .inr h) (.inl rfl)
      rw [List.set_cons_succ] at h2
      have H2 := Lib.hid h2
      have kp := k2
      clear hv2 k2 h2
      refine hK _ _ (flow_step kk ?_ ?_)
      · first | exact kp | exact Keep.refl _ _ | exact (Keep.refl _ _).alloc _
      clear kk hK; try clear kp
      intro kk
      refine flowe_take 9 (v := ?_) (a' := ?_) hps rfl (by kernel_rfl) rfl ?_ ?_ ?_
      rotate_left 2
      · intro w' hk; go_simp; try rfl
      · simp only [Act.put, List.setIfInBounds_toArray, List.set_cons_succ, List.set_cons_zero]; try rfl
      refine flowe_done hps (by kernel_rfl) ?_
      clear kk HR HV HTO u0 u1 HNE HV2
      go_wp2
      have hil : i < l.length := (List.getElem?_eq_some_iff.1 HI.out).1
      have hi2 : (RowO g 77 [.int .i64 o, .int .i64 s, .bool u] :: l.set i (ArT p { A with b := layAt A.b O X }))[i + 1]? = some (ArT p { A with b := layAt A.b O X }) := by
        rw [List.getElem?_cons_succ]; exact List.getElem?_set_self hil
      have h2' : St B w0 w2 (RowO g 77 [.int .i64 o, .int .i64 s, .bool u] :: l.set i (ArT p { A with b := layAt A.b O X })) := H2.out
      obtain ⟨v', hva, hto⟩ := h2'.drew.arTo (i := i + 1) hi2
      have HNE := Lib.hid (h2'.drew.apart (i := 0) (j := i + 1) rfl hi2 (by omega) hva)
      have HR := Lib.hid (h2'.drew.row (i := 0) rfl)
      have HV := Lib.hid hva; have HTO := Lib.hid hto
      have hll : (layAt A.b O X).length = A.b.length := layAt_length A.b O X (by have := HOS.out; omega)
      have HLL := Lib.hid hll
      have u0 : IntKind.i64.wrap (o + s) = o + s := IntWalk.i64_in _ (by omega)
      have u1 : IntKind.i64.wrap (o + s - 8) = o + s - 8 := IntWalk.i64_in _ (by omega)
      have u2 : IntKind.u64.wrap (o + s - 8) = o + s - 8 := IntWalk.u64_in _ (by omega)
      have u3 : IntKind.u64.wrap ((A.base : Int) + (o + s - 8)) = (A.base : Int) + (o + s - 8) := IntWalk.u64_in _ (by omega)
      clear hva hto hi2 h2' hll hil
      refine flowe_begin (F := fun k => v'.ownBlock = some k) hmixed 14 rfl (by repeat (first | with_reducible refine ps_then ?_ | with_reducible refine ps_block ?_ | with_reducible exact ps_body | refine ps_then ?_ | refine ps_block ?_ | exact ps_body)) (fun hps => ?_)
      simp only [List.replicate]
      have kk := (Keep.refl (fun k => v'.ownBlock = some k) (w2)).drew
      refine flowe_take 0 (v := ?_) (a' := ?_) hps rfl (by kernel_rfl) rfl ?_ ?_ ?_
      rotate_left 2
      · intro w' hk; go_simp; try rfl
      · simp only [Act.put, List.setIfInBounds_toArray, List.set_cons_succ, List.set_cons_zero]; try rfl
      refine flowe_take 1 (v := ?_) (a' := ?_) hps rfl (by kernel_rfl) rfl ?_ ?_ ?_
      rotate_left 2
      · intro w' hk; go_simp; try rfl
      · simp only [Act.put, List.setIfInBounds_toArray, List.set_cons_succ, List.set_cons_zero]; try rfl
      refine flowe_take 3 (v := ?_) (a' := ?_) hps rfl (by kernel_rfl) rfl ?_ ?_ ?_
      rotate_left 2
      · intro w' hk; go_simp; try rfl
      · simp only [Act.put, List.setIfInBounds_toArray, List.set_cons_succ, List.set_cons_zero]; try rfl
      refine flowe_take 4 (v := ?_) (a' := ?_) hps rfl (by kernel_rfl) rfl ?_ ?_ ?_
      rotate_left 2
      · intro w' hk; have hr := (HR.out.keep hk HNE.out).cell 0; simp only [List.getElem?_cons_succ, List.getElem?_cons_zero] at hr; go_simp; try rfl
      · simp only [Act.put, List.setIfInBounds_toArray, List.set_cons_succ, List.set_cons_zero]; try rfl
      refine flowe_take 5 (v := ?_) (a' := ?_) hps rfl (by kernel_rfl) rfl ?_ ?_ ?_
      rotate_left 2
      · intro w' hk; go_simp; try rfl
      · simp only [Act.put, List.setIfInBounds_toArray, List.set_cons_succ, List.set_cons_zero]; try rfl
      refine flowe_take 6 (v := ?_) (a' := ?_) hps rfl (by kernel_rfl) rfl ?_ ?_ ?_
      rotate_left 2
      · intro w' hk; have hr := (HR.out.keep hk HNE.out).cell 1; simp only [List.getElem?_cons_succ, List.getElem?_cons_zero] at hr; go_simp; try rfl
      · simp only [Act.put, List.setIfInBounds_toArray, List.set_cons_succ, List.set_cons_zero]; try rfl
      refine flowe_take 7 (v := ?_) (a' := ?_) hps rfl (by kernel_rfl) rfl ?_ ?_ ?_
      rotate_left 2
      · intro w' hk; go_simp; try rfl
      · simp only [Act.put, List.setIfInBounds_toArray, List.set_cons_succ, List.set_cons_zero]; try rfl
      refine flowe_take 8 (v := ?_) (a' := ?_) hps rfl (by kernel_rfl) rfl ?_ ?_ ?_
      rotate_left 2
      · intro w' hk; go_simp; try rfl
      · simp only [Act.put, List.setIfInBounds_toArray, List.set_cons_succ, List.set_cons_zero]; try rfl
      refine flowe_take 9 (v := ?_) (a' := ?_) hps rfl (by kernel_rfl) rfl ?_ ?_ ?_
      rotate_left 2
      · intro w' hk; go_simp; try rfl
      · simp only [Act.put, List.setIfInBounds_toArray, List.set_cons_succ, List.set_cons_zero]; try rfl
      refine flowe_take 11 (v := ?_) (a' := ?_) hps rfl (by kernel_rfl) rfl ?_ ?_ ?_
      rotate_left 2
      · intro w' hk; go_simp; try rfl
      · simp only [Act.put, List.setIfInBounds_toArray, List.set_cons_succ, List.set_cons_zero]; try rfl
      refine flowe_one 2 hps rfl (by kernel_rfl) rfl (wp_next (fun K hK => ?_))
      go_simp
      have kc := arena_Base _ p { A with b := layAt A.b O X } v' HV.out
      with_reducible refine kc.mono ?_
      clear kc
      rintro e w' ⟨rfl, rfl⟩
      refine hK _ _ (flow_step kk ?_ ?_)
      · first | exact kp | exact Keep.refl _ _ | exact (Keep.refl _ _).alloc _
      clear kk hK; try clear kp
      intro kk
      refine flowe_take 10 (v := ?_) (a' := ?_) hps rfl (by kernel_rfl) rfl ?_ ?_ ?_
      rotate_left 2
      · intro w' hk; go_simp; try rfl
      · simp only [Act.put, List.setIfInBounds_toArray, List.set_cons_succ, List.set_cons_zero]; try rfl
      refine flowe_one 12 hps rfl (by kernel_rfl) rfl (wp_next (fun K hK => ?_))
      go_simp
      have kc := arena_SetWord_ok _ p { A with b := layAt A.b O X } v' HV.out ((A.base : Int) + (o + s - 8)) (O + S - 8) (by have := HOS.out; show _ = (A.base : Int) + _; omega) (X : Int) X rfl (by omega) (by have := HOS.out; show _ ≤ (layAt A.b O X).length; rw [HLL.out]; omega)
      with_reducible refine kc.mono ?_
      clear kc
      rintro e w3 ⟨rfl, hv3, k3⟩
      have h3 := HTO.out _ _ v' hv3 (k3.mono fun _ _ h => .inr h) (.inl rfl)
      rw [List.set_cons_succ, List.set_set] at h3
      have H3 := Lib.hid h3
      have kp := k3
      clear hv3 k3 h3
      refine hK _ _ (flow_step kk ?_ ?_)
      · first | exact kp | exact Keep.refl _ _ | exact (Keep.refl _ _).alloc _
      clear kk hK; try clear kp
      intro kk
      refine flowe_take 13 (v := ?_) (a' := ?_) hps rfl (by kernel_rfl) rfl ?_ ?_ ?_
      rotate_left 2
      · intro w' hk; go_simp; try rfl
      · simp only [Act.put, List.setIfInBounds_toArray, List.set_cons_succ, List.set_cons_zero]; try rfl
      refine flowe_done hps (by kernel_rfl) ?_
      clear kk HR HV HTO u0 u1 u2 u3 HNE
      go_wp2
      go_ret
      exact ⟨rfl, H3.out.tail⟩
end
end Go.Proofs.Ytjijniillehfoaa

/- Contracts of the library (bits.Len ..), laid by the kit's tool in this dump's own numbers. -/
namespace Go.Proofs
open Go.Shelf
def Try.lays128_ren : Go.Shelf.Ren := ⟨fun | 128 => 237 | n => n, fun | 51 => 110 | 3 => 3 | 4 => 4 | 46 => 235 | 5 => 5 | 9 => 9 | n => n, fun | n => n⟩
theorem Try.lays128 : Go.Proofs.Lays.n128 Try.prog Try.lays128_ren := {
  mixed := by kernel_rfl
  f128 := Try.func237.trans (congrArg some (by kernel_rfl))
  t3 := Try.underlying3
  a3 := Try.isAgg3
  z3 := Try.sizeOf3
  v3 := Try.zeroValue3
  t4 := Try.underlying4
  a4 := Try.isAgg4
  z4 := Try.sizeOf4
  v4 := Try.zeroValue4
  t5 := Try.underlying5
  a5 := Try.isAgg5
  z5 := Try.sizeOf5
  v5 := Try.zeroValue5
  t9 := Try.underlying9
  a9 := Try.isAgg9
  z9 := Try.sizeOf9
  v9 := Try.zeroValue9
  t46 := Try.underlying235
  a46 := Try.isAgg235
  z46 := Try.sizeOf235
  v46 := Try.zeroValue235
  t51 := Try.underlying110
  a51 := Try.isAgg110
  z51 := Try.sizeOf110
  v51 := Try.zeroValue110 }
theorem Try.bits_Len32 (x : Int) (w : World) (h0 : 0 ≤ x) (h1 : x ≤ 4294967295) :
    Calls Try.prog 237 #[.int .u32 x] w fun e w' => e = .returned (.int .i64 (Lib.bitLen x.toNat)) ∧ w' = w := Any.bits_Len32 Try.lays128 x w h0 h1
def Try.lays125_ren : Go.Shelf.Ren := ⟨fun | 125 => 228 | 128 => 237 | 129 => 238 | n => n, fun | 46 => 235 | 3 => 3 | 51 => 110 | 53 => 49 | 4 => 4 | 5 => 5 | 9 => 9 | n => n, fun | n => n⟩
theorem Try.lays125 : Go.Proofs.Lays.n125 Try.prog Try.lays125_ren := {
  mixed := by kernel_rfl
  f125 := Try.func228.trans (congrArg some (by kernel_rfl))
  f128 := Try.func237.trans (congrArg some (by kernel_rfl))
  f129 := Try.func238.trans (congrArg some (by kernel_rfl))
  t3 := Try.underlying3
  a3 := Try.isAgg3
  z3 := Try.sizeOf3
  v3 := Try.zeroValue3
  t4 := Try.underlying4
  a4 := Try.isAgg4
  z4 := Try.sizeOf4
  v4 := Try.zeroValue4
  t5 := Try.underlying5
  a5 := Try.isAgg5
  z5 := Try.sizeOf5
  v5 := Try.zeroValue5
  t9 := Try.underlying9
  a9 := Try.isAgg9
  z9 := Try.sizeOf9
  v9 := Try.zeroValue9
  t46 := Try.underlying235
  a46 := Try.isAgg235
  z46 := Try.sizeOf235
  v46 := Try.zeroValue235
  t51 := Try.underlying110
  a51 := Try.isAgg110
  z51 := Try.sizeOf110
  v51 := Try.zeroValue110
  t53 := Try.underlying49
  a53 := Try.isAgg49
  z53 := Try.sizeOf49
  v53 := Try.zeroValue49 }
theorem Try.bits_Len (x : Int) (w : World) (h0 : 0 ≤ x) (h1 : x ≤ 18446744073709551615) :
    Calls Try.prog 228 #[.int .u64 x] w fun e w' => e = .returned (.int .i64 (Lib.bitLen x.toNat)) ∧ w' = w := Any.bits_Len Try.lays125 x w h0 h1
def Try.lays129_ren : Go.Shelf.Ren := ⟨fun | 129 => 238 | n => n, fun | 53 => 49 | 3 => 3 | 4 => 4 | 46 => 235 | 5 => 5 | 9 => 9 | n => n, fun | n => n⟩
theorem Try.lays129 : Go.Proofs.Lays.n129 Try.prog Try.lays129_ren := {
  mixed := by kernel_rfl
  f129 := Try.func238.trans (congrArg some (by kernel_rfl))
  t3 := Try.underlying3
  a3 := Try.isAgg3
  z3 := Try.sizeOf3
  v3 := Try.zeroValue3
  t4 := Try.underlying4
  a4 := Try.isAgg4
  z4 := Try.sizeOf4
  v4 := Try.zeroValue4
  t5 := Try.underlying5
  a5 := Try.isAgg5
  z5 := Try.sizeOf5
  v5 := Try.zeroValue5
  t9 := Try.underlying9
  a9 := Try.isAgg9
  z9 := Try.sizeOf9
  v9 := Try.zeroValue9
  t46 := Try.underlying235
  a46 := Try.isAgg235
  z46 := Try.sizeOf235
  v46 := Try.zeroValue235
  t53 := Try.underlying49
  a53 := Try.isAgg49
  z53 := Try.sizeOf49
  v53 := Try.zeroValue49 }
theorem Try.bits_Len64 (x : Int) (w : World) (h0 : 0 ≤ x) (h1 : x ≤ 18446744073709551615) :
    Calls Try.prog 238 #[.int .u64 x] w fun e w' => e = .returned (.int .i64 (Lib.bitLen x.toNat)) ∧ w' = w := Any.bits_Len64 Try.lays129 x w h0 h1
end Go.Proofs

/- Classes of sizes: the program's and the reference's. -/
namespace Go.Proofs.Ytjijniillehfoaa
open Go Go.RowKit Go.Own
set_option linter.unusedVariables false
theorem bitLen_of {x k : Nat} (h1 : 2 ^ k ≤ x) (h2 : x < 2 ^ (k + 1)) (hk : k < 64) : Lib.bitLen x = k + 1 := by
  unfold Lib.bitLen
  have aux : ∀ (f k x : Nat), 2 ^ k ≤ x → x < 2 ^ (k + 1) → k < f → Lib.bitLenAux f x = k + 1 := by
    intro f
    induction f with
    | zero => intro k x _ _ h; omega
    | succ f ih =>
      intro k x h1 h2 hk
      have hp : 0 < 2 ^ k := Nat.pow_pos (by decide)
      unfold Lib.bitLenAux
      rw [if_neg (by omega)]
      cases k with
      | zero =>
        have : x = 1 := by simp at h1 h2; omega
        subst this
        cases f <;> simp [Lib.bitLenAux]
      | succ k =>
        rw [Nat.pow_succ] at h1 h2
        rw [ih k (x / 2) (by omega) (by omega) (by omega)]; omega
  exact aux 64 k x h1 h2 hk
theorem len_cls {s : Int} (h : isSize s = true) (h2 : 256 < s) : cls s = 6 + (Lib.bitLen s.toNat : Nat) := by
  refine cls_len h h2 _ ?_
  have hs := (isSize_iff s).1 h
  have key : ∀ k : Nat, k < 64 → (2 : Int) ^ k ≤ s → s < (2 : Int) ^ (k + 1) → ((Lib.bitLen s.toNat : Nat) : Int) = k + 1 := by
    intro k hk a b
    have e1 : ((2 : Int) ^ k) = ((2 ^ k : Nat) : Int) := by simp
    have e2 : ((2 : Int) ^ (k + 1)) = ((2 ^ (k + 1) : Nat) : Int) := by simp
    rw [e1] at a; rw [e2] at b
    rw [bitLen_of (k := k) (by omega) (by omega) hk]; simp
  by_cases a1 : s < 512
  · rw [if_pos a1, key 8 (by decide) (by omega) (by omega)]; rfl
  by_cases a2 : s < 1024
  · rw [if_neg a1, if_pos a2, key 9 (by decide) (by omega) (by omega)]; rfl
  by_cases a3 : s < 2048
  · rw [if_neg a1, if_neg a2, if_pos a3, key 10 (by decide) (by omega) (by omega)]; rfl
  by_cases a4 : s < 4096
  · rw [if_neg a1, if_neg a2, if_neg a3, if_pos a4, key 11 (by decide) (by omega) (by omega)]; rfl
  by_cases a5 : s < 8192
  · rw [if_neg a1, if_neg a2, if_neg a3, if_neg a4, if_pos a5, key 12 (by decide) (by omega) (by omega)]; rfl
  by_cases a6 : s < 16384
  · rw [if_neg a1, if_neg a2, if_neg a3, if_neg a4, if_neg a5, if_pos a6, key 13 (by decide) (by omega) (by omega)]; rfl
  · rw [if_neg a1, if_neg a2, if_neg a3, if_neg a4, if_neg a5, if_neg a6, key 14 (by decide) (by omega) (by omega)]; rfl
theorem class_Class (w : World) (s : Int) (h0 : -9223372036854775808 ≤ s) (h1 : s ≤ 9223372036854775807) :
    Calls Try.prog 192 #[.int .i64 s] w fun e w' => e = .returned (.int .i64 (cls s)) ∧ w = w' := by
  by_cases h : isSize s = true
  · obtain ⟨s1, s2, s3⟩ := (isSize_iff s).1 h
    have hne : (s % 16 != 0) = false := by rw [bne_eq_false_iff_eq]; exact s3
    by_cases hs : s ≤ 256
    · have ec : cls s = s / 16 - 2 := by unfold cls; rw [h]; simp only [if_true]; rw [if_pos hs]
      have EC := Lib.hid ec
      clear ec h s3
      go_enter Try.func192, Try.ntmps192
      go_wp2
      go_ret
      exact ⟨rI EC.out.symm, rfl⟩
    · have ec := len_cls h (by omega)
      have k := Try.bits_Len s w (by omega) (by omega)
      have hb : (Lib.bitLen s.toNat : Nat) ≤ 64 := by
        have := ec; unfold cls at this; rw [h] at this; simp only [if_true] at this
        repeat (split at this <;> try omega)
      have EC := Lib.hid ec; have K := Lib.hid k
      clear ec k h s3
      go_enter Try.func192, Try.ntmps192
      go_wp2_with fail
      refine K.out.mono ?_
      rintro e w' ⟨rfl, rfl⟩
      go_wp2
      go_ret
      exact ⟨rI EC.out.symm, rfl⟩
  · have ec : cls s = -1 := by unfold cls; rw [if_neg h]
    have hn : s < 32 ∨ 16384 < s ∨ (32 ≤ s ∧ s ≤ 16384 ∧ (s % 16 != 0) = true) := by
      have h4 : ¬ (32 ≤ s ∧ s ≤ 16384 ∧ s % 16 = 0) := fun hh => h (isSize_yes hh)
      rw [bne_iff_ne]; omega
    have EC := Lib.hid ec
    clear ec h
    rcases hn with hn | hn | ⟨a1, a2, a3⟩
    all_goals
      go_enter Try.func192, Try.ntmps192
      go_wp2
      go_ret
      exact ⟨rI EC.out.symm, rfl⟩

/-- What the reference's loop holds. -/
def ClsAt (s c t : Int) : Prop :=
  (c = 15 ∧ t = 512 ∧ 256 < s) ∨ (c = 16 ∧ t = 1024 ∧ 512 ≤ s) ∨ (c = 17 ∧ t = 2048 ∧ 1024 ≤ s) ∨ (c = 18 ∧ t = 4096 ∧ 2048 ≤ s) ∨ (c = 19 ∧ t = 8192 ∧ 4096 ≤ s) ∨ (c = 20 ∧ t = 16384 ∧ 8192 ≤ s) ∨ (c = 21 ∧ t = 32768 ∧ 16384 ≤ s)
theorem ClsAt.next {s c t : Int} (h : ClsAt s c t) (ht : t ≤ s) (hs : s ≤ 16384) : ClsAt s (c + 1) (2 * t) ∧ 512 ≤ t ∧ t ≤ 16384 ∧ 15 ≤ c ∧ c ≤ 20 := by
  rcases h with ⟨rfl, rfl, h⟩ | ⟨rfl, rfl, h⟩ | ⟨rfl, rfl, h⟩ | ⟨rfl, rfl, h⟩ | ⟨rfl, rfl, h⟩ | ⟨rfl, rfl, h⟩ | ⟨rfl, rfl, h⟩
  · exact ⟨.inr (.inl ⟨rfl, rfl, ht⟩), by omega⟩
  · exact ⟨.inr (.inr (.inl ⟨rfl, rfl, ht⟩)), by omega⟩
  · exact ⟨.inr (.inr (.inr (.inl ⟨rfl, rfl, ht⟩))), by omega⟩
  · exact ⟨.inr (.inr (.inr (.inr (.inl ⟨rfl, rfl, ht⟩)))), by omega⟩
  · exact ⟨.inr (.inr (.inr (.inr (.inr (.inl ⟨rfl, rfl, ht⟩))))), by omega⟩
  · exact ⟨.inr (.inr (.inr (.inr (.inr (.inr ⟨rfl, rfl, ht⟩))))), by omega⟩
  · omega
theorem ClsAt.done {s c t : Int} (h : ClsAt s c t) (ht : s < t) (h0 : isSize s = true) : cls s = c := by
  unfold cls
  rw [h0]
  simp only [if_true]
  have := (isSize_iff s).1 h0
  rcases h with ⟨rfl, rfl, h⟩ | ⟨rfl, rfl, h⟩ | ⟨rfl, rfl, h⟩ | ⟨rfl, rfl, h⟩ | ⟨rfl, rfl, h⟩ | ⟨rfl, rfl, h⟩ | ⟨rfl, rfl, h⟩
  all_goals (rw [if_neg (by omega)]; repeat (first | rw [if_pos (by omega)] | rw [if_neg (by omega)]))
set_option maxHeartbeats 1000000 in
theorem ref_Class (w : World) (s : Int) (h0 : -9223372036854775808 ≤ s) (h1 : s ≤ 9223372036854775807) :
    Calls Try.prog 87 #[.int .i64 s] w fun e w' => e = .returned (.int .i64 (cls s)) ∧ w = w' := by
  have k := ref_IsSize w s
  cases h : isSize s with
  | true =>
    rw [h] at k
    obtain ⟨s1, s2, s3⟩ := (isSize_iff s).1 h
    by_cases hs : s ≤ 256
    · have ec : cls s = s / 16 - 2 := by unfold cls; rw [h]; simp only [if_true]; rw [if_pos hs]
      have EC := Lib.hid ec; have K := Lib.hid k
      clear ec h s3 k
      go_enter Try.func87, Try.ntmps87
      go_wp2_with fail
      with_reducible refine K.out.mono ?_
      rintro e w' ⟨rfl, rfl⟩
      go_wp2
      go_ret
      exact ⟨rI EC.out.symm, rfl⟩
    · have HS := Lib.hid h; have K := Lib.hid k
      clear h s3 k
      go_enter Try.func87, Try.ntmps87
      go_wp2_with fail
      with_reducible refine K.out.mono ?_
      rintro e w' ⟨rfl, rfl⟩
      go_wp2
      go_loop [4, 5] (fun v x => ∃ c t : Int, v = .int .i64 c ∧ x = .int .i64 t ∧ ClsAt s c t) (fun v _ => (21 - intOf v).toNat)
      case atStart => exact ⟨15, 512, rfl, rfl, .inl ⟨rfl, rfl, by omega⟩⟩
      case round =>
        obtain ⟨c, t, rfl, rfl, hc⟩ := hrel
        by_cases hlt : t ≤ s
        · obtain ⟨n1, n2, n3, n4, n5⟩ := hc.next hlt s2
          clear hc
          go_wp2
          exact ⟨⟨c + 1, 2 * t, rfl, rfl, n1⟩, by simp [intOf]; omega⟩
        · have e := hc.done (by omega) HS.out
          have E := Lib.hid e
          clear e hc
          go_wp2
          go_ret
          exact ⟨rI E.out.symm, rfl⟩
  | false =>
    rw [h] at k
    have ec : cls s = -1 := by unfold cls; rw [h]; rfl
    have EC := Lib.hid ec; have K := Lib.hid k
    clear ec h k
    go_enter Try.func87, Try.ntmps87
    go_wp2_with fail
    with_reducible refine K.out.mono ?_
    rintro e w' ⟨rfl, rfl⟩
    go_wp2
    go_ret
    exact ⟨rI EC.out.symm, rfl⟩
end Go.Proofs.Ytjijniillehfoaa

/- Blocks that tile an arena's bytes, and the lists of its free ones: what the list operations do. No program. -/
namespace Go.Own
/-- Only words of T have turned. -/
structure Touch (T : Nat → Prop) (b b' : List UInt8) : Prop where
  len : b'.length = b.length
  same : ∀ o n, (∀ t, T t → o + n ≤ t ∨ t + 8 ≤ o) → (b'.drop o).take n = (b.drop o).take n
theorem Touch.refl (T : Nat → Prop) (b : List UInt8) : Touch T b b := ⟨rfl, fun _ _ _ => rfl⟩
theorem Touch.trans {T : Nat → Prop} {a b c : List UInt8} (h : Touch T a b) (k : Touch T b c) : Touch T a c :=
  ⟨k.len.trans h.len, fun o n ht => (k.same o n ht).trans (h.same o n ht)⟩
theorem Touch.mono {T T' : Nat → Prop} {a b : List UInt8} (h : Touch T a b) (ht : ∀ t, T t → T' t) : Touch T' a b :=
  ⟨h.len, fun o n hn => h.same o n fun t h => hn t (ht t h)⟩
theorem Touch.lay {T : Nat → Prop} (b : List UInt8) (o v : Nat) (h : o + 8 ≤ b.length) (ht : T o) : Touch T b (layAt b o v) :=
  ⟨layAt_length b o v h, fun p n hn => by
    unfold layAt
    exact lay_far (by rw [low_length]; exact h) p n (by rw [low_length]; exact hn o ht)⟩
theorem Touch.num {T : Nat → Prop} {b b' : List UInt8} (h : Touch T b b') (o : Nat) (ho : ∀ t, T t → o + 8 ≤ t ∨ t + 8 ≤ o) : numAt b' o = numAt b o := by
  unfold numAt; rw [h.len, h.same o 8 ho]
/-- Blocks, one behind the other, up to the end. -/
def Tile (b : List UInt8) : Nat → List Blk → Prop
  | o, [] => o = b.length
  | o, x :: r => blkAt b o = some x ∧ Tile b (o + x.size) r
theorem walkFrom_tile (b : List UInt8) : ∀ (bs : List Blk) (f o : Nat), o ≤ b.length → b.length ≤ o + f → (walkFrom b f o = some bs ↔ Tile b o bs)
  | bs, 0, o, h1, h2 => by
    obtain rfl : o = b.length := by omega
    unfold walkFrom
    rw [if_neg (by omega)]
    constructor
    · intro h
      simp only [Option.some.injEq] at h
      subst h; rfl
    · intro h
      cases bs with
      | nil => rfl
      | cons x r =>
        have := blkAt_some h.1
        omega
  | bs, f + 1, o, h1, h2 => by
    unfold walkFrom
    split
    · rename_i hlt
      cases hg : blkAt b o with
      | none =>
        constructor
        · intro h; cases h
        · intro h
          cases bs with
          | nil => have : o = b.length := h; omega
          | cons x r => rw [h.1] at hg; cases hg
      | some x =>
        have hx := blkAt_some hg
        cases bs with
        | nil =>
          constructor
          · intro h
            simp only [Option.map_eq_some_iff] at h
            obtain ⟨_, _, h⟩ := h
            cases h
          · intro h; have : o = b.length := h; omega
        | cons y r =>
          have ih := walkFrom_tile b r f (o + x.size) (by omega) (by omega)
          constructor
          · intro h
            simp only [Option.map_eq_some_iff, List.cons.injEq] at h
            obtain ⟨l, h1, rfl, rfl⟩ := h
            exact ⟨hg, ih.1 h1⟩
          · intro h
            have : x = y := by have := hg.symm.trans h.1; simpa using this
            subst this
            simp only [Option.map_eq_some_iff, List.cons.injEq]
            exact ⟨r, ih.2 h.2, trivial, rfl⟩
    · obtain rfl : o = b.length := by omega
      constructor
      · intro h
        simp only [Option.some.injEq] at h
        subst h; rfl
      · intro h
        cases bs with
        | nil => rfl
        | cons x r =>
          have := blkAt_some h.1
          omega
theorem walkB_tile (b : List UInt8) (bs : List Blk) : walkB b = some bs ↔ 184 ≤ b.length ∧ Tile b 184 bs := by
  unfold walkB
  split
  · constructor
    · intro h; cases h
    · intro h; omega
  · rw [walkFrom_tile b bs b.length 184 (by omega) (by omega)]
    exact ⟨fun h => ⟨by omega, h⟩, fun h => h.2⟩
theorem Tile.mem {b : List UInt8} {x : Blk} : ∀ {bs : List Blk} {o : Nat}, Tile b o bs → x ∈ bs → o ≤ x.off ∧ blkAt b x.off = some x ∧ x.off + x.size ≤ b.length
  | [], _, _, h => by cases h
  | y :: r, o, ht, h => by
    have hy := blkAt_some ht.1
    rcases List.mem_cons.1 h with rfl | h
    · rw [hy.1]; exact ⟨Nat.le_refl _, ht.1, by omega⟩
    · have := ht.2.mem h; exact ⟨by omega, this.2⟩
theorem Tile.apart {b : List UInt8} {x y : Blk} : ∀ {bs : List Blk} {o : Nat}, Tile b o bs → x ∈ bs → y ∈ bs → x = y ∨ x.off + x.size ≤ y.off ∨ y.off + y.size ≤ x.off
  | [], _, _, h, _ => by cases h
  | z :: r, o, ht, hx, hy => by
    have hz := blkAt_some ht.1
    rcases List.mem_cons.1 hx with e1 | h1 <;> rcases List.mem_cons.1 hy with e2 | h2
    · exact .inl (e1.trans e2.symm)
    · subst e1; have := ht.2.mem h2; exact .inr (.inl (by omega))
    · subst e2; have := ht.2.mem h1; exact .inr (.inr (by omega))
    · exact ht.2.apart h1 h2
/-- Blocks that are there, no two with a byte in common. -/
structure Good (b : List UInt8) (bs : List Blk) : Prop where
  mem : ∀ {x : Blk}, x ∈ bs → 184 ≤ x.off ∧ blkAt b x.off = some x ∧ x.off + x.size ≤ b.length
  apart : ∀ {x y : Blk}, x ∈ bs → y ∈ bs → x = y ∨ x.off + x.size ≤ y.off ∨ y.off + y.size ≤ x.off
theorem Tile.good {b : List UInt8} {bs : List Blk} (h : Tile b 184 bs) : Good b bs := ⟨fun hx => h.mem hx, fun hx hy => h.apart hx hy⟩
/-- Words of the header, and the two link words of free blocks. -/
def LinkW (bs : List Blk) (t : Nat) : Prop := t + 8 ≤ 184 ∨ ∃ x ∈ bs, x.used = false ∧ (t = x.off + 8 ∨ t = x.off + 16)
theorem blkAt_touch {T : Nat → Prop} {b b' : List UInt8} (h : Touch T b b') {o : Nat} {x : Blk} (hx : blkAt b o = some x) (ht : ∀ t, T t → (o + 8 ≤ t ∨ t + 8 ≤ o) ∧ (o + x.size ≤ t ∨ t + 8 ≤ o + x.size - 8)) : blkAt b' o = some x := by
  have hs := blkAt_some hx
  have e1 := h.num o fun t h => (ht t h).1
  have e2 := h.num (o + x.size - 8) fun t h => by have := (ht t h).2; omega
  have hsz : x.size = (tagS (numAt b o)).toNat := by omega
  rw [hsz] at e2
  unfold blkAt at hx ⊢
  rw [e1, h.len, e2]
  exact hx
theorem LinkW.off {b : List UInt8} {bs : List Blk} (h : Good b bs) {t : Nat} (ht : LinkW bs t) {x : Blk} (hx : x ∈ bs) : (x.off + 8 ≤ t ∨ t + 8 ≤ x.off) ∧ (x.off + x.size ≤ t ∨ t + 8 ≤ x.off + x.size - 8) := by
  have h1 := h.mem hx
  have h2 := blkAt_some h1.2.1
  rcases ht with ht | ⟨y, hy, _, ht⟩
  · omega
  · have h3 := h.mem hy
    have h4 := blkAt_some h3.2.1
    rcases h.apart hx hy with rfl | h5 | h5 <;> rcases ht with rfl | rfl <;> omega
theorem Tile.touch {b b' : List UInt8} {bs : List Blk} (h : Tile b 184 bs) (hl : 184 ≤ b.length) (ht : Touch (LinkW bs) b b') : Tile b' 184 bs := by
  have key : ∀ (r : List Blk) (o : Nat), Tile b o r → (∀ x ∈ r, x ∈ bs) → Tile b' o r := by
    intro r
    induction r with
    | nil => intro o h _; exact h.trans ht.len.symm
    | cons x r ih =>
      intro o h1 h2
      have hx := (blkAt_some h1.1).1
      refine ⟨blkAt_touch ht h1.1 fun t h3 => ?_, ih _ h1.2 fun y hy => h2 y (List.mem_cons_of_mem _ hy)⟩
      have := h3.off h.good (h2 x (List.mem_cons_self ..))
      rw [hx] at this; exact this
  exact key bs 184 h fun x hx => hx
theorem Good.touch {b b' : List UInt8} {bs : List Blk} (h : Good b bs) (ht : Touch (LinkW bs) b b') : Good b' bs :=
  ⟨fun {x} hx => by
    have h1 := h.mem hx
    exact ⟨h1.1, blkAt_touch ht h1.2.1 fun t h3 => h3.off h hx, by rw [ht.len]; exact h1.2.2⟩, fun hx hy => h.apart hx hy⟩
/-- From one's predecessor and one's place through a list to the next place. -/
def Seg (b : List UInt8) : Nat → Nat → List Nat → Nat → Nat → Prop
  | last, at_, [], last', at' => last' = last ∧ at' = at_
  | last, at_, o :: r, last', at' => at_ = o ∧ numAt b (o + 16) = last ∧ Seg b o (numAt b (o + 8)) r last' at'
theorem Seg.append {b : List UInt8} : ∀ {l1 l2 : List Nat} {p q p' q' : Nat}, Seg b p q (l1 ++ l2) p' q' ↔ ∃ m k, Seg b p q l1 m k ∧ Seg b m k l2 p' q'
  | [], l2, p, q, p', q' => by
    constructor
    · intro h; exact ⟨p, q, ⟨rfl, rfl⟩, h⟩
    · rintro ⟨m, k, ⟨rfl, rfl⟩, h⟩; exact h
  | o :: l1, l2, p, q, p', q' => by
    simp only [List.cons_append, Seg, Seg.append (l1 := l1)]
    constructor
    · rintro ⟨h1, h2, m, k, h3, h4⟩; exact ⟨m, k, ⟨h1, h2, h3⟩, h4⟩
    · rintro ⟨m, k, ⟨h1, h2, h3⟩, h4⟩; exact ⟨h1, h2, m, k, h3, h4⟩
theorem Seg.frame {b b' : List UInt8} : ∀ {l : List Nat} {p q p' q' : Nat}, (∀ o ∈ l, numAt b' (o + 8) = numAt b (o + 8) ∧ numAt b' (o + 16) = numAt b (o + 16)) → Seg b p q l p' q' → Seg b' p q l p' q'
  | [], _, _, _, _, _, h => h
  | o :: l, p, q, p', q', hf, h => by
    have := hf o (List.mem_cons_self ..)
    refine ⟨h.1, this.2.trans h.2.1, ?_⟩
    rw [this.1]
    exact h.2.2.frame fun o ho => hf o (List.mem_cons_of_mem _ ho)
theorem Seg.last {b : List UInt8} : ∀ {l : List Nat} {p q p' q' : Nat}, Seg b p q l p' q' → p' = l.getLastD p
  | [], _, _, _, _, h => h.1
  | o :: l, p, q, p', q', h => by
    rw [h.2.2.last]
    cases l <;> rfl
theorem Seg.head {b : List UInt8} {l : List Nat} {p q p' q' : Nat} (h : Seg b p q l p' q') : q = l.headD q' := by
  cases l with
  | nil => exact h.2.symm
  | cons o l => exact h.1
end Go.Own

/- One bit of a number, set or cleared. No program. -/
namespace Go.Own
theorem bitAt_test (w c : Nat) : bitAt w c = w.testBit c := by unfold bitAt; rw [Nat.testBit_eq_decide_div_mod_eq]
theorem bitAt_set (w c d : Nat) (v : Bool) : bitAt (setBit w c v) d = if d = c then v else bitAt w d := by
  unfold setBit
  split
  · rename_i h; split
    · rename_i e; subst e; exact h
    · rfl
  · rename_i h
    rw [bitAt_test] at h
    rw [bitAt_test, bitAt_test, Nat.testBit_xor, Nat.testBit_two_pow]
    split
    · rename_i e; subst e
      cases hb : w.testBit d <;> cases v <;> simp_all
    · rename_i e
      have : decide (c = d) = false := decide_eq_false fun h => e h.symm
      rw [this]; simp
theorem setBit_lt {w c : Nat} {v : Bool} (h : w < 4194304) (hc : c < 22) : setBit w c v < 4194304 := by
  unfold setBit
  split
  · exact h
  · exact Nat.xor_lt_two_pow (n := 22) h (Nat.pow_lt_pow_right (by decide) hc)
theorem setBit_lt64 {w c : Nat} {v : Bool} (h : w < 18446744073709551616) (hc : c < 22) : setBit w c v < 18446744073709551616 := by
  unfold setBit
  split
  · exact h
  · exact Nat.xor_lt_two_pow (n := 64) h (Nat.pow_lt_pow_right (by decide) (by omega))
theorem or_bit (w c : Nat) : w ||| 2 ^ c = setBit w c true := by
  apply Nat.eq_of_testBit_eq
  intro d
  rw [← bitAt_test (setBit w c true), bitAt_set, bitAt_test, Nat.testBit_or, Nat.testBit_two_pow]
  split
  · rename_i e; subst e; simp
  · rename_i e
    have : decide (c = d) = false := decide_eq_false fun h => e h.symm
    rw [this]; simp
theorem andNot_bit (w c : Nat) (h : w < 18446744073709551616) (hc : c < 22) : w &&& (18446744073709551615 - 2 ^ c) = setBit w c false := by
  apply Nat.eq_of_testBit_eq
  intro d
  have e : 18446744073709551615 - 2 ^ c = 2 ^ 64 - (2 ^ c + 1) := by
    have : (2 : Nat) ^ 64 = 18446744073709551616 := by decide
    omega
  rw [← bitAt_test (setBit w c false), bitAt_set, bitAt_test, Nat.testBit_and, e, Nat.testBit_two_pow_sub_succ (Nat.pow_lt_pow_right (by decide) (by omega)), Nat.testBit_two_pow]
  by_cases hd : d < 64
  · split
    · rename_i e; subst e; simp
    · rename_i e
      have : decide (c = d) = false := decide_eq_false fun h => e h.symm
      rw [this]; simp [hd]
  · have : w.testBit d = false := Nat.testBit_lt_two_pow (Nat.lt_of_lt_of_le h (by
      have : (18446744073709551616 : Nat) = 2 ^ 64 := by decide
      rw [this]; exact Nat.pow_le_pow_right (by decide) (by omega)))
    rw [this]; simp
theorem xor_low (w c : Nat) : w ^^^ 2 ^ c = if w.testBit c then w - 2 ^ c else w + 2 ^ c := by
  have hp : 0 < 2 ^ c := Nat.two_pow_pos c
  have hw : w = 2 ^ (c + 1) * (w / 2 ^ (c + 1)) + w % 2 ^ (c + 1) := (Nat.div_add_mod _ _).symm
  have hlt : w % 2 ^ (c + 1) < 2 ^ (c + 1) := Nat.mod_lt _ (Nat.two_pow_pos _)
  have h2 : (2 : Nat) ^ (c + 1) = 2 * 2 ^ c := by rw [Nat.pow_succ]; omega
  have hb : w.testBit c = decide (2 ^ c ≤ w % 2 ^ (c + 1)) := by
    rw [Nat.testBit_eq_decide_div_mod_eq]
    have : w % 2 ^ (c + 1) / 2 ^ c = w / 2 ^ c % 2 := by rw [Nat.pow_succ, Nat.mod_mul_right_div_self]
    rw [← this]
    congr 1
    apply propext
    constructor
    · intro h
      rcases Nat.lt_or_ge (w % 2 ^ (c + 1)) (2 ^ c) with hl | hl
      · rw [Nat.div_eq_of_lt hl] at h; cases h
      · exact hl
    · intro h
      have h1 : w % 2 ^ (c + 1) / 2 ^ c < 2 := (Nat.div_lt_iff_lt_mul hp).2 (by omega)
      have h3 : 1 ≤ w % 2 ^ (c + 1) / 2 ^ c := (Nat.le_div_iff_mul_le hp).2 (by omega)
      omega
  have key : ∀ (a r s : Nat), r < 2 ^ (c + 1) → s < 2 ^ (c + 1) → r ^^^ 2 ^ c = s → (2 ^ (c + 1) * a + r) ^^^ 2 ^ c = 2 ^ (c + 1) * a + s := by
    intro a r s hr hs he
    apply Nat.eq_of_testBit_eq
    intro d
    rw [Nat.testBit_xor, Nat.testBit_two_pow_mul_add _ hr, Nat.testBit_two_pow_mul_add _ hs, Nat.testBit_two_pow]
    split
    · rw [← he, Nat.testBit_xor, Nat.testBit_two_pow]
    · have : decide (c = d) = false := decide_eq_false (by omega)
      rw [this]; simp
  have low : ∀ r, r < 2 ^ c → r ^^^ 2 ^ c = r + 2 ^ c := by
    intro r hr
    apply Nat.eq_of_testBit_eq
    intro d
    rw [Nat.add_comm, Nat.testBit_xor, Nat.testBit_two_pow]
    rcases Nat.lt_trichotomy d c with hd | hd | hd
    · rw [Nat.testBit_two_pow_add_gt hd]
      have : decide (c = d) = false := decide_eq_false (by omega)
      rw [this]; simp
    · subst hd
      rw [Nat.testBit_two_pow_add_eq, Nat.testBit_lt_two_pow hr]; simp
    · have h1 : r.testBit d = false := Nat.testBit_lt_two_pow (Nat.lt_of_lt_of_le hr (Nat.pow_le_pow_right (by decide) (by omega)))
      have h3 : (2 ^ c + r).testBit d = false := Nat.testBit_lt_two_pow (Nat.lt_of_lt_of_le (by omega : 2 ^ c + r < 2 ^ (c + 1)) (Nat.pow_le_pow_right (by decide) (by omega)))
      have : decide (c = d) = false := decide_eq_false (by omega)
      rw [h1, h3, this]; rfl
  rw [hb]
  by_cases hc : 2 ^ c ≤ w % 2 ^ (c + 1)
  · rw [decide_eq_true hc, if_pos rfl]
    have h4 : w % 2 ^ (c + 1) ^^^ 2 ^ c = w % 2 ^ (c + 1) - 2 ^ c := by
      have h5 := low (w % 2 ^ (c + 1) - 2 ^ c) (by omega)
      rw [show w % 2 ^ (c + 1) - 2 ^ c + 2 ^ c = w % 2 ^ (c + 1) by omega] at h5
      have h6 := congrArg (· ^^^ 2 ^ c) h5
      simp only [Nat.xor_assoc, Nat.xor_self, Nat.xor_zero] at h6
      exact h6.symm
    have := key (w / 2 ^ (c + 1)) _ _ hlt (by omega) h4
    rw [← hw] at this
    omega
  · rw [decide_eq_false hc]
    have := key (w / 2 ^ (c + 1)) _ (w % 2 ^ (c + 1) + 2 ^ c) hlt (by omega) (low _ (by omega))
    rw [← hw] at this
    simp only [Bool.false_eq_true, if_false]
    omega
/-- The reference's way. -/
theorem setBit_arith (w c : Nat) (v : Bool) : setBit w c v = if bitAt w c = v then w else if v then w + 2 ^ c else w - 2 ^ c := by
  unfold setBit
  split
  · rfl
  · rename_i h
    rw [xor_low, ← bitAt_test]
    cases hb : bitAt w c <;> cases v <;> simp_all
end Go.Own

/- The lists of free blocks: taken out, put in, told. No program. -/
namespace Go.Own
structure Lists (b : List UInt8) (bs : List Blk) (ls : Nat → List Nat) : Prop where
  w0 : numAt b 0 < 4194304
  bit : ∀ c, c < 22 → bitAt (numAt b 0) c = decide (ls c ≠ [])
  seg : ∀ c, c < 22 → ∃ z, Seg b 0 (numAt b (headO c)) (ls c) z 0
  mem : ∀ c, c < 22 → ∀ o ∈ ls c, ∃ x ∈ bs, x.off = o ∧ x.used = false ∧ cls x.size = c
  nodup : ∀ c, c < 22 → (ls c).Nodup
section
variable {b : List UInt8} {bs : List Blk} {ls : Nat → List Nat}
theorem Lists.place (h : Lists b bs ls) (ht : Good b bs) {c o : Nat} (hc : c < 22) (ho : o ∈ ls c) : 184 ≤ o ∧ o % 16 = 8 ∧ o + 32 ≤ b.length ∧ memberB b o c = true := by
  obtain ⟨x, hx, rfl, hu, hcl⟩ := h.mem c hc o ho
  have h1 := ht.mem hx
  have h2 := blkAt_some h1.2.1
  refine ⟨h1.1, h2.2.2.1, by omega, ?_⟩
  unfold memberB
  rw [h1.2.1]
  simp [hu, hcl]
theorem Lists.sep (h : Lists b bs ls) (ht : Good b bs) {c d o : Nat} (hc : c < 22) (hd : d < 22) (h1 : o ∈ ls c) (h2 : o ∈ ls d) : c = d := by
  obtain ⟨x, hx, e1, _, h3⟩ := h.mem c hc o h1
  obtain ⟨y, hy, e2, _, h4⟩ := h.mem d hd o h2
  have g1 := (ht.mem hx).2.1
  have g2 := (ht.mem hy).2.1
  rw [e1] at g1
  rw [e2, g1] at g2
  simp only [Option.some.injEq] at g2
  subst g2
  omega
theorem nodup_len : ∀ (n : Nat) (l : List Nat), l.Nodup → (∀ x ∈ l, x < n) → l.length ≤ n
  | 0, l, _, h => by
    cases l with
    | nil => exact Nat.le_refl _
    | cons a l => have := h a (List.mem_cons_self ..); omega
  | n + 1, l, hn, h => by
    by_cases hm : n ∈ l
    · have := nodup_len n (l.erase n) (hn.erase n) fun x hx => by
        have h1 := h x (List.mem_of_mem_erase hx)
        have h2 : x ≠ n := fun e => by subst e; exact (hn.not_mem_erase) hx
        omega
      rw [List.length_erase_of_mem hm] at this
      omega
    · have := nodup_len n l hn fun x hx => by
        have h1 := h x hx
        have h2 : x ≠ n := fun e => by subst e; exact hm hx
        omega
      omega
theorem Lists.short (h : Lists b bs ls) (ht : Good b bs) (hb : b.length ≤ 16384) {c : Nat} (hc : c < 22) : (ls c).length ≤ 1024 := by
  have hn : ((ls c).map (· / 16)).Nodup := by
    have h1 := h.nodup c hc
    refine List.Pairwise.map _ (fun a b h => h) ?_
    refine List.Pairwise.imp_of_mem (R := fun a b => a ≠ b) (fun {x y} hx hy hne => ?_) h1
    have := h.place ht hc hx
    have := h.place ht hc hy
    omega
  have := nodup_len 1024 _ hn fun x hx => by
    obtain ⟨o, ho, rfl⟩ := List.mem_map.1 hx
    have := h.place ht hc ho
    omega
  simpa using this
theorem allFrom_seg {c : Nat} : ∀ (l : List Nat) (f at_ last z : Nat), Seg b last at_ l z 0 → (∀ o ∈ l, o ≠ 0 ∧ memberB b o c = true) → l.length ≤ f → allFrom b c f at_ last = some l
  | [], f, at_, last, z, h, _, _ => by
    have : at_ = 0 := h.2.symm
    subst this
    cases f <;> rfl
  | o :: l, 0, at_, last, z, h, _, hl => by simp at hl
  | o :: l, f + 1, at_, last, z, h, hm, hl => by
    obtain ⟨rfl, h2, h3⟩ := h
    have h4 := hm at_ (List.mem_cons_self ..)
    unfold allFrom
    rw [if_neg h4.1, if_neg (by rw [h4.2, h2]; simp), allFrom_seg l f _ _ z h3 (fun o ho => hm o (List.mem_cons_of_mem _ ho)) (by simpa using hl)]
    rfl
theorem Lists.head (h : Lists b bs ls) {c : Nat} (hc : c < 22) : numAt b (headO c) = (ls c).headD 0 := by
  obtain ⟨z, hz⟩ := h.seg c hc
  exact hz.head
theorem Lists.headNe (h : Lists b bs ls) (ht : Good b bs) {c : Nat} (hc : c < 22) : numAt b (headO c) ≠ 0 ↔ ls c ≠ [] := by
  rw [h.head hc]
  cases hl : ls c with
  | nil => simp
  | cons o l =>
    have := h.place ht hc (o := o) (by rw [hl]; exact List.mem_cons_self ..)
    simp; omega
theorem Lists.all (h : Lists b bs ls) (ht : Good b bs) (hl : 184 ≤ b.length) (hb : b.length ≤ 16384) {c : Nat} (hc : c < 22) : allB b c = some (ls c) := by
  obtain ⟨z, hz⟩ := h.seg c hc
  have h1 := h.headNe ht hc
  unfold allB
  rw [if_neg (by omega), if_neg (by rw [h.bit c hc]; simp [h1]), allFrom_seg (ls c) 1024 _ 0 z hz (fun o ho => by have := h.place ht hc ho; exact ⟨by omega, this.2.2.2⟩) (h.short ht hb hc)]
end
theorem markB_num {b : List UInt8} {c : Nat} (hb : 8 ≤ b.length) (hc : c < 22) (q : Nat) (hq : q % 8 = 0) : numAt (markB b c) q = if q = 0 then setBit (numAt b 0) c (decide (numAt b (headO c) ≠ 0)) else numAt b q := by
  unfold markB
  rw [numAt_lay b 0 q _ (by omega) (setBit_lt64 (numAt_lt b 0) hc) (by omega)]
theorem markB_touch {T : Nat → Prop} {b : List UInt8} {c : Nat} (hb : 8 ≤ b.length) (ht : T 0) : Touch T b (markB b c) := Touch.lay b 0 _ (by omega) ht
theorem Seg.lastNext {b : List UInt8} : ∀ {l : List Nat} {p q p' q' : Nat}, Seg b p q l p' q' → l ≠ [] → numAt b (p' + 8) = q'
  | [], _, _, _, _, _, h => absurd rfl h
  | [o], p, q, p', q', h, _ => by
    obtain ⟨_, _, h1, h2⟩ := h
    rw [h1, h2]
  | o :: o2 :: r, p, q, p', q', h, _ => Seg.lastNext h.2.2 (by simp)
theorem Seg.lastMem {b : List UInt8} : ∀ {l : List Nat} {p q p' q' : Nat}, Seg b p q l p' q' → l ≠ [] → p' ∈ l
  | [], _, _, _, _, _, h => absurd rfl h
  | [o], p, q, p', q', h, _ => by rw [h.2.2.1]; exact List.mem_cons_self ..
  | o :: o2 :: r, p, q, p', q', h, _ => List.mem_cons_of_mem _ (Seg.lastMem h.2.2 (by simp))
/-- The last one's next place is another one. -/
theorem Seg.retail {b b' : List UInt8} {q'' : Nat} : ∀ {l : List Nat} {p q p' q' : Nat}, Seg b p q l p' q' → l ≠ [] → l.Nodup → (∀ o ∈ l, numAt b' (o + 16) = numAt b (o + 16)) → (∀ o ∈ l, o ≠ p' → numAt b' (o + 8) = numAt b (o + 8)) → numAt b' (p' + 8) = q'' → Seg b' p q l p' q''
  | [], _, _, _, _, _, h, _, _, _, _ => absurd rfl h
  | [o], p, q, p', q', h, _, _, h1, h2, h3 => by
    obtain ⟨e1, e2, e3, e4⟩ := h
    subst e3
    exact ⟨e1, (h1 _ (List.mem_cons_self ..)).trans e2, rfl, h3.symm⟩
  | o :: o2 :: r, p, q, p', q', h, _, hn, h1, h2, h3 => by
    have hm := Seg.lastMem h.2.2 (by simp)
    have hne : o ≠ p' := fun e => (List.nodup_cons.1 hn).1 (e ▸ hm)
    refine ⟨h.1, (h1 o (List.mem_cons_self ..)).trans h.2.1, ?_⟩
    rw [h2 o (List.mem_cons_self ..) hne]
    exact Seg.retail h.2.2 (by simp) (List.nodup_cons.1 hn).2 (fun x hx => h1 x (List.mem_cons_of_mem _ hx)) (fun x hx => h2 x (List.mem_cons_of_mem _ hx)) h3
/-- What stands ahead of the first one is another one. -/
theorem Seg.rehead {b b' : List UInt8} {p2 : Nat} {l : List Nat} {p q z : Nat} (h : Seg b p q l z 0) (hn : l.Nodup) (h1 : ∀ o ∈ l, numAt b' (o + 8) = numAt b (o + 8)) (h2 : ∀ o ∈ l, o ≠ q → numAt b' (o + 16) = numAt b (o + 16)) (h3 : l ≠ [] → numAt b' (q + 16) = p2) : ∃ z', Seg b' p2 q l z' 0 := by
  cases l with
  | nil => exact ⟨p2, rfl, h.2⟩
  | cons o r =>
    obtain ⟨rfl, e2, e3⟩ := h
    have hr := (List.nodup_cons.1 hn).1
    refine ⟨z, rfl, h3 (by simp), ?_⟩
    rw [h1 q (List.mem_cons_self ..)]
    exact e3.frame fun x hx => ⟨h1 x (List.mem_cons_of_mem _ hx), h2 x (List.mem_cons_of_mem _ hx) fun e => hr (e ▸ hx)⟩
/-- A block is taken out of its list. -/
theorem takeB_lists {b : List UInt8} {bs : List Blk} {ls : Nat → List Nat} (h : Lists b bs ls) (ht : Good b bs) (hl : 184 ≤ b.length) {c o : Nat} (hc : c < 22) (ho : o ∈ ls c) :
    ∃ b', takeB b o = some b' ∧ Touch (LinkW bs) b b' ∧ Lists b' bs (fun d => if d = c then (ls c).filter (· ≠ o) else ls d) := by
  obtain ⟨x, hx, hxo, hxu, hxc⟩ := h.mem c hc o ho
  have hg := (ht.mem hx).2.1
  rw [hxo] at hg
  have hfree : freeB b o = some c := by unfold freeB; rw [hg]; simp [hxu, hxc]
  have hpl := fun {d q : Nat} (hd : d < 22) (hq : q ∈ ls d) => h.place ht hd hq
  have hlw := fun {d q : Nat} (hd : d < 22) (hq : q ∈ ls d) => h.mem d hd q hq
  have hsep := fun {d q : Nat} (hd : d < 22) (hq : q ∈ ls d) (hq' : q ∈ ls c) => h.sep ht hd hc hq hq'
  obtain ⟨z, hz⟩ := h.seg c hc
  have hnd := h.nodup c hc
  obtain ⟨l1, l2, hsplit⟩ := List.append_of_mem ho
  have hm1 : ∀ q ∈ l1, q ∈ ls c := fun q hq => by rw [hsplit]; exact List.mem_append_left _ hq
  have hm2 : ∀ q ∈ l2, q ∈ ls c := fun q hq => by rw [hsplit]; exact List.mem_append_right _ (List.mem_cons_of_mem _ hq)
  have hnd0 := hnd
  rw [hsplit] at hz hnd
  obtain ⟨m, k, s1, s2, s3, s4⟩ := Seg.append.1 hz
  subst s2
  have hnd1 : ∀ q ∈ l1, q ≠ k ∧ q ∉ l2 := fun q hq => by
    have := (List.nodup_append.1 hnd).2.2 q hq
    exact ⟨this k (List.mem_cons_self ..), fun h2 => this q (List.mem_cons_of_mem _ h2) rfl⟩
  have hnd2 : k ∉ l2 ∧ l2.Nodup := List.nodup_cons.1 (List.nodup_append.1 hnd).2.1
  have hnd3 : l1.Nodup := (List.nodup_append.1 hnd).1
  have hfil : (ls c).filter (· ≠ k) = l1 ++ l2 := by
    rw [hsplit, List.filter_append, List.filter_cons]
    have e1 : l1.filter (· ≠ k) = l1 := List.filter_eq_self.2 fun q hq => by simpa using (hnd1 q hq).1
    have e2 : l2.filter (· ≠ k) = l2 := List.filter_eq_self.2 fun q hq => by
      have : q ≠ k := fun e => hnd2.1 (e ▸ hq)
      simpa using this
    rw [e1, e2]; simp
  have hko := hpl hc ho
  have hm0 : l1 = [] → m = 0 ∧ numAt b (headO c) = k := fun e => by subst e; exact ⟨s1.1, s1.2.symm⟩
  have hmm : l1 ≠ [] → m ∈ l1 ∧ numAt b (m + 8) = k := fun e => ⟨s1.lastMem e, s1.lastNext e⟩
  have hmz : m = 0 ↔ l1 = [] := ⟨fun e => by
    rcases Classical.em (l1 = []) with h1 | h1
    · exact h1
    · have := hpl hc (hm1 _ (hmm h1).1); omega, fun e => (hm0 e).1⟩
  obtain ⟨n, hn⟩ : ∃ n, numAt b (k + 8) = n := ⟨_, rfl⟩
  rw [hn] at s4
  have hn0 : l2 = [] → n = 0 := fun e => by subst e; exact s4.2.symm
  have hnm : l2 ≠ [] → n ∈ l2 ∧ numAt b (n + 16) = k := fun e => by
    cases l2 with
    | nil => exact absurd rfl e
    | cons a r => obtain ⟨rfl, e2, _⟩ := s4; exact ⟨List.mem_cons_self .., e2⟩
  have hnz : n = 0 ↔ l2 = [] := ⟨fun e => by
    rcases Classical.em (l2 = []) with h1 | h1
    · exact h1
    · have := hpl hc (hm2 _ (hnm h1).1); omega, hn0⟩
  have hmb : m ≠ 0 → m ∈ l1 ∧ numAt b (m + 8) = k ∧ 184 ≤ m ∧ m % 16 = 8 ∧ m + 32 ≤ b.length ∧ memberB b m c = true := fun e => by
    have h1 := hmm fun h => e (hmz.2 h)
    have h2 := hpl hc (hm1 _ h1.1)
    exact ⟨h1.1, h1.2, h2⟩
  have hnb : n ≠ 0 → n ∈ l2 ∧ numAt b (n + 16) = k ∧ 184 ≤ n ∧ n % 16 = 8 ∧ n + 32 ≤ b.length ∧ memberB b n c = true := fun e => by
    have h1 := hnm fun h => e (hnz.2 h)
    have h2 := hpl hc (hm2 _ h1.1)
    exact ⟨h1.1, h1.2, h2⟩
  have hmk : m < 18446744073709551616 := by have := numAt_lt b (k + 16); omega
  have hnk : n < 18446744073709551616 := by have := numAt_lt b (k + 8); omega
  have hho : headO c + 8 ≤ 184 ∧ headO c % 8 = 0 ∧ 0 < headO c := by unfold headO; omega
  have hcond : ¬ ((m = 0 ∧ numAt b (headO c) ≠ k) ∨ (m ≠ 0 ∧ (memberB b m c = false ∨ numAt b (m + 8) ≠ k)) ∨ (n ≠ 0 ∧ (memberB b n c = false ∨ numAt b (n + 16) ≠ k))) := by
    rintro (⟨e1, e2⟩ | ⟨e1, e2⟩ | ⟨e1, e2⟩)
    · exact e2 (hm0 (hmz.1 e1)).2
    · obtain ⟨_, a1, _, _, _, a2⟩ := hmb e1
      rcases e2 with e2 | e2
      · rw [a2] at e2; cases e2
      · exact e2 a1
    · obtain ⟨_, a1, _, _, _, a2⟩ := hnb e1
      rcases e2 with e2 | e2
      · rw [a2] at e2; cases e2
      · exact e2 a1
  obtain ⟨b1, hb1⟩ : ∃ b1, (if m = 0 then layAt b (headO c) n else layAt b (m + 8) n) = b1 := ⟨_, rfl⟩
  obtain ⟨b2, hb2⟩ : ∃ b2, (if n = 0 then b1 else layAt b1 (n + 16) m) = b2 := ⟨_, rfl⟩
  have htake : takeB b k = some (markB b2 c) := by
    unfold takeB
    rw [hfree]
    simp only
    rw [s3, hn, if_neg hcond, hb1, hb2]
  have lw0 : ∀ t, t + 8 ≤ 184 → LinkW bs t := fun t h => .inl h
  have lwc : ∀ q ∈ ls c, LinkW bs (q + 8) ∧ LinkW bs (q + 16) := fun q hq => by
    obtain ⟨y, hy, e1, e2, _⟩ := hlw hc hq
    exact ⟨.inr ⟨y, hy, e2, .inl (by rw [e1])⟩, .inr ⟨y, hy, e2, .inr (by rw [e1])⟩⟩
  have t1 : Touch (LinkW bs) b b1 := by
    rw [← hb1]
    split
    · exact Touch.lay b _ _ (by omega) (lw0 _ hho.1)
    · rename_i e; have := hmb e; exact Touch.lay b _ _ (by omega) (lwc m (hm1 _ this.1)).1
  have t2 : Touch (LinkW bs) b1 b2 := by
    rw [← hb2]
    split
    · exact Touch.refl _ _
    · rename_i e; have := hnb e; exact Touch.lay b1 _ _ (by rw [t1.len]; omega) (lwc n (hm2 _ this.1)).2
  have hb2l : b2.length = b.length := t2.len.trans t1.len
  have t3 : Touch (LinkW bs) b2 (markB b2 c) := markB_touch (by omega) (lw0 0 (by omega))
  have f1 : ∀ q, q % 8 = 0 → numAt b1 q = if (m = 0 ∧ q = headO c) ∨ (m ≠ 0 ∧ q = m + 8) then n else numAt b q := fun q hq => by
    rw [← hb1]
    by_cases e : m = 0
    · rw [if_pos e, numAt_lay b _ q n (by omega) hnk (by omega)]
      by_cases e2 : q = headO c <;> simp [e, e2]
    · have := hmb e
      rw [if_neg e, numAt_lay b _ q n (by omega) hnk (by omega)]
      by_cases e2 : q = m + 8 <;> simp [e, e2]
  have f2 : ∀ q, q % 8 = 0 → numAt b2 q = if n ≠ 0 ∧ q = n + 16 then m else numAt b1 q := fun q hq => by
    rw [← hb2]
    by_cases e : n = 0
    · rw [if_pos e]; simp [e]
    · have := hnb e
      rw [if_neg e, numAt_lay b1 _ q m (by rw [t1.len]; omega) hmk (by omega)]
      by_cases e2 : q = n + 16 <;> simp [e, e2]
  have f3 := fun q hq => markB_num (b := b2) (c := c) (by omega) hc q hq
  have g0 : numAt b2 0 = numAt b 0 := by
    rw [f2 0 rfl, if_neg (by omega), f1 0 rfl, if_neg (by omega)]
  have gh : ∀ d, d < 22 → d ≠ c → numAt (markB b2 c) (headO d) = numAt b (headO d) := fun d hd hne => by
    have e1 : headO d ≠ headO c := by unfold headO; omega
    have e2 : headO d + 8 ≤ 184 ∧ 0 < headO d ∧ headO d % 8 = 0 := by unfold headO; omega
    rw [f3 _ e2.2.2, if_neg (by omega), f2 _ e2.2.2, if_neg (fun h => by have := hnb h.1; omega), f1 _ e2.2.2, if_neg (by rintro (h | h); exact e1 h.2; have := hmb h.1; omega)]
  have ghc : numAt b2 (headO c) = if m = 0 then n else numAt b (headO c) := by
    rw [f2 _ hho.2.1, if_neg (fun h => by have := hnb h.1; omega), f1 _ hho.2.1]
    by_cases e : m = 0
    · simp [e]
    · rw [if_neg (by rintro (h | h); exact e h.1; have := hmb h.1; omega), if_neg e]
  have g8 : ∀ q, 184 ≤ q → q % 16 = 8 → numAt (markB b2 c) (q + 8) = if m ≠ 0 ∧ q = m then n else numAt b (q + 8) := fun q h1 h2 => by
    rw [f3 _ (by omega), if_neg (by omega), f2 _ (by omega), if_neg (fun h => by have := hnb h.1; omega), f1 _ (by omega)]
    by_cases e : m ≠ 0 ∧ q = m
    · rw [if_pos (.inr ⟨e.1, by omega⟩), if_pos e]
    · rw [if_neg (by rintro (h | h); omega; exact e ⟨h.1, by omega⟩), if_neg e]
  have g16 : ∀ q, 184 ≤ q → q % 16 = 8 → numAt (markB b2 c) (q + 16) = if n ≠ 0 ∧ q = n then m else numAt b (q + 16) := fun q h1 h2 => by
    rw [f3 _ (by omega), if_neg (by omega), f2 _ (by omega)]
    by_cases e : n ≠ 0 ∧ q = n
    · rw [if_pos ⟨e.1, by omega⟩, if_pos e]
    · rw [if_neg (fun h => e ⟨h.1, by omega⟩), if_neg e, f1 _ (by omega), if_neg (by rintro (h | h); omega; have := hmb h.1; omega)]
  refine ⟨_, htake, (t1.trans t2).trans t3, ?_, ?_, ?_, ?_, ?_⟩
  · rw [f3 0 rfl, if_pos rfl, g0]; exact setBit_lt h.w0 hc
  · intro d hd
    rw [f3 0 rfl, if_pos rfl, g0, bitAt_set]
    by_cases e : d = c
    · subst e
      rw [if_pos rfl, ghc, if_pos rfl, hfil]
      by_cases e : m = 0
      · rw [if_pos e, hmz.1 e]; simp [hnz]
      · have := (fun h => e (hmz.2 h) : l1 ≠ [])
        rw [if_neg e]
        have h1 := (h.headNe ht hd).2 (fun h => by rw [h] at ho; cases ho)
        have h2 : l1 ++ l2 ≠ [] := fun h => e (hmz.2 (List.append_eq_nil_iff.1 h).1)
        rw [decide_eq_true h1, decide_eq_true h2]
    · rw [if_neg e, if_neg e]; exact h.bit d hd
  · intro d hd
    by_cases e : d = c
    · subst e
      rw [if_pos rfl, hfil]
      have hh : numAt (markB b2 d) (headO d) = if m = 0 then n else numAt b (headO d) := by rw [f3 _ hho.2.1, if_neg (by omega), ghc]
      have h2 : ∃ z', Seg (markB b2 d) m n l2 z' 0 := by
        refine Seg.rehead s4 hnd2.2 (fun q hq => ?_) (fun q hq hne => ?_) (fun hne => ?_)
        · have h1 := hpl hc (hm2 q hq)
          rw [g8 q h1.1 h1.2.1, if_neg]
          rintro ⟨h2, rfl⟩
          exact (hnd1 _ (hmb h2).1).2 hq
        · have h1 := hpl hc (hm2 q hq)
          rw [g16 q h1.1 h1.2.1, if_neg (fun h => hne h.2)]
        · have h1 := hnb ((fun h => hne (hnz.1 h)))
          rw [g16 n h1.2.2.1 h1.2.2.2.1, if_pos ⟨(fun h => hne (hnz.1 h)), rfl⟩]
      obtain ⟨z', hz'⟩ := h2
      refine ⟨z', Seg.append.2 ⟨m, n, ?_, hz'⟩⟩
      rw [hh]
      by_cases e : m = 0
      · rw [if_pos e, hmz.1 e]
        exact ⟨e, rfl⟩
      · rw [if_neg e]
        have hne := (fun h => e (hmz.2 h) : l1 ≠ [])
        refine s1.retail hne hnd3 (fun q hq => ?_) (fun q hq hq2 => ?_) ?_
        · have h1 := hpl hc (hm1 q hq)
          rw [g16 q h1.1 h1.2.1, if_neg]
          rintro ⟨h2, rfl⟩
          exact (hnd1 _ hq).2 (hnb h2).1
        · have h1 := hpl hc (hm1 q hq)
          rw [g8 q h1.1 h1.2.1, if_neg (fun h => hq2 h.2)]
        · have h1 := hmb e
          rw [g8 m h1.2.2.1 h1.2.2.2.1, if_pos ⟨e, rfl⟩]
    · rw [if_neg e]
      obtain ⟨z2, hz2⟩ := h.seg d hd
      refine ⟨z2, ?_⟩
      rw [gh d hd e]
      refine hz2.frame fun q hq => ?_
      have h1 := hpl hd hq
      rw [g8 q h1.1 h1.2.1, g16 q h1.1 h1.2.1, if_neg, if_neg]
      · exact ⟨rfl, rfl⟩
      · rintro ⟨h2, rfl⟩; exact e (hsep hd hq (hm2 _ (hnb h2).1))
      · rintro ⟨h2, rfl⟩; exact e (hsep hd hq (hm1 _ (hmb h2).1))
  · intro d hd q hq
    by_cases e : d = c
    · subst e
      rw [if_pos rfl] at hq
      exact h.mem d hd q (List.mem_filter.1 hq).1
    · rw [if_neg e] at hq; exact h.mem d hd q hq
  · intro d hd
    by_cases e : d = c
    · subst e
      rw [if_pos rfl]; exact hnd0.filter _
    · rw [if_neg e]; exact h.nodup d hd
/-- A free block that is in no list is put into its own. -/
theorem putB_lists {b : List UInt8} {bs : List Blk} {ls : Nat → List Nat} (h : Lists b bs ls) (ht : Good b bs) (hl : 184 ≤ b.length) (hb : b.length ≤ 16384) {c : Nat} (hc : c < 22) {x : Blk} (hx : x ∈ bs) (hu : x.used = false) (hcl : cls x.size = c) (hno : x.off ∉ ls c) :
    ∃ b', putB b x.off = some b' ∧ Touch (LinkW bs) b b' ∧ Lists b' bs (fun d => if d = c then x.off :: ls c else ls d) := by
  have hg := (ht.mem hx).2.1
  have hgs := blkAt_some hg
  have hfree : freeB b x.off = some c := by unfold freeB; rw [hg]; simp [hu, hcl]
  have hpl := fun {d q : Nat} (hd : d < 22) (hq : q ∈ ls d) => h.place ht hd hq
  have hnod : ∀ d, d < 22 → x.off ∉ ls d := fun d hd hq => by
    obtain ⟨y, hy, e1, _, e2⟩ := h.mem d hd _ hq
    have g2 := (ht.mem hy).2.1
    rw [e1, hg] at g2
    simp only [Option.some.injEq] at g2
    subst g2
    have : (c : Int) = d := hcl.symm.trans e2
    have : c = d := by omega
    subst this
    exact hno hq
  obtain ⟨o, ho⟩ : ∃ o, x.off = o := ⟨_, rfl⟩
  rw [ho] at hno hfree hg hgs hnod ⊢
  obtain ⟨z, hz⟩ := h.seg c hc
  obtain ⟨n, hn⟩ : ∃ n, numAt b (headO c) = n := ⟨_, rfl⟩
  have hhd := h.head hc
  have hnz := h.headNe ht hc
  rw [hn] at hz hhd hnz
  have hnmem : n ≠ 0 → n ∈ ls c := fun e => by
    have := hnz.1 e
    rw [hhd]
    cases hl : ls c with
    | nil => exact absurd hl this
    | cons a r => exact List.mem_cons_self ..
  have hnb : n ≠ 0 → 184 ≤ n ∧ n % 16 = 8 ∧ n + 32 ≤ b.length ∧ memberB b n c = true ∧ n ≠ o := fun e => by
    have h1 := hpl hc (hnmem e)
    exact ⟨h1.1, h1.2.1, h1.2.2.1, h1.2.2.2, fun e2 => hno (e2 ▸ hnmem e)⟩
  have hnk : n < 18446744073709551616 := by have := numAt_lt b (headO c); omega
  have hho : headO c + 8 ≤ 184 ∧ headO c % 8 = 0 ∧ 0 < headO c := by unfold headO; omega
  have hcond : ¬ (n = o ∨ (n ≠ 0 ∧ memberB b n c = false)) := by
    rintro (e | ⟨e, e2⟩)
    · by_cases e0 : n = 0
      · omega
      · exact (hnb e0).2.2.2.2 e
    · rw [(hnb e).2.2.2.1] at e2; cases e2
  have hok : o < 18446744073709551616 := by omega
  obtain ⟨bA, hbA⟩ : ∃ bA, layAt (layAt b (o + 8) n) (o + 16) 0 = bA := ⟨_, rfl⟩
  obtain ⟨bB, hbB⟩ : ∃ bB, (if n = 0 then bA else layAt bA (n + 16) o) = bB := ⟨_, rfl⟩
  obtain ⟨bC, hbC⟩ : ∃ bC, layAt bB (headO c) o = bC := ⟨_, rfl⟩
  have hput : putB b o = some (markB bC c) := by
    unfold putB
    rw [hfree]
    simp only
    rw [hn, if_neg hcond, hbA, hbB, hbC]
  have lw0 : ∀ t, t + 8 ≤ 184 → LinkW bs t := fun t h => .inl h
  have lwo : LinkW bs (o + 8) ∧ LinkW bs (o + 16) := ⟨.inr ⟨x, hx, hu, .inl (by rw [ho])⟩, .inr ⟨x, hx, hu, .inr (by rw [ho])⟩⟩
  have lwn : n ≠ 0 → LinkW bs (n + 16) := fun e => by
    obtain ⟨y, hy, e1, e2, _⟩ := h.mem c hc n (hnmem e)
    exact .inr ⟨y, hy, e2, .inr (by rw [e1])⟩
  have hlA0 : (layAt b (o + 8) n).length = b.length := layAt_length _ _ _ (by omega)
  have tA : Touch (LinkW bs) b bA := by
    rw [← hbA]
    exact (Touch.lay b _ _ (by omega) lwo.1).trans (Touch.lay _ _ _ (by omega) lwo.2)
  have tB : Touch (LinkW bs) bA bB := by
    rw [← hbB]
    split
    · exact Touch.refl _ _
    · rename_i e; have := hnb e; exact Touch.lay bA _ _ (by rw [tA.len]; omega) (lwn e)
  have tC : Touch (LinkW bs) bB bC := by
    rw [← hbC]
    exact Touch.lay bB _ _ (by rw [tB.len, tA.len]; omega) (lw0 _ hho.1)
  have hCl : bC.length = b.length := tC.len.trans (tB.len.trans tA.len)
  have tD : Touch (LinkW bs) bC (markB bC c) := markB_touch (by omega) (lw0 0 (by omega))
  have fA : ∀ q, q % 8 = 0 → numAt bA q = if q = o + 16 then 0 else if q = o + 8 then n else numAt b q := fun q hq => by
    rw [← hbA, numAt_lay _ _ q 0 (by omega) (by decide) (by omega), numAt_lay _ _ q n (by omega) hnk (by omega)]
  have fB : ∀ q, q % 8 = 0 → numAt bB q = if n ≠ 0 ∧ q = n + 16 then o else numAt bA q := fun q hq => by
    rw [← hbB]
    by_cases e : n = 0
    · rw [if_pos e]; simp [e]
    · have := hnb e
      rw [if_neg e, numAt_lay bA _ q o (by rw [tA.len]; omega) hok (by omega)]
      by_cases e2 : q = n + 16 <;> simp [e, e2]
  have fC : ∀ q, q % 8 = 0 → numAt bC q = if q = headO c then o else numAt bB q := fun q hq => by
    rw [← hbC, numAt_lay bB _ q o (by rw [tB.len, tA.len]; omega) hok (by omega)]
  have fD := fun q hq => markB_num (b := bC) (c := c) (by omega) hc q hq
  have g0 : numAt bC 0 = numAt b 0 := by
    rw [fC 0 rfl, if_neg (by omega), fB 0 rfl, if_neg (by omega), fA 0 rfl, if_neg (by omega), if_neg (by omega)]
  have gh : ∀ d, d < 22 → d ≠ c → numAt (markB bC c) (headO d) = numAt b (headO d) := fun d hd hne => by
    have e1 : headO d ≠ headO c := by unfold headO; omega
    have e2 : headO d + 8 ≤ 184 ∧ 0 < headO d ∧ headO d % 8 = 0 := by unfold headO; omega
    rw [fD _ e2.2.2, if_neg (by omega), fC _ e2.2.2, if_neg e1, fB _ e2.2.2, if_neg (fun h => by have := hnb h.1; omega), fA _ e2.2.2, if_neg (by omega), if_neg (by omega)]
  have ghc : numAt bC (headO c) = o := by rw [fC _ hho.2.1, if_pos rfl]
  have g8 : ∀ q, 184 ≤ q → q % 16 = 8 → numAt (markB bC c) (q + 8) = if q = o then n else numAt b (q + 8) := fun q h1 h2 => by
    rw [fD _ (by omega), if_neg (by omega), fC _ (by omega), if_neg (by omega), fB _ (by omega), if_neg (fun h => by have := hnb h.1; omega), fA _ (by omega), if_neg (by omega)]
    by_cases e : q = o
    · rw [if_pos (by omega), if_pos e]
    · rw [if_neg (by omega), if_neg e]
  have g16 : ∀ q, 184 ≤ q → q % 16 = 8 → q ≠ o → numAt (markB bC c) (q + 16) = if n ≠ 0 ∧ q = n then o else numAt b (q + 16) := fun q h1 h2 h3 => by
    rw [fD _ (by omega), if_neg (by omega), fC _ (by omega), if_neg (by omega), fB _ (by omega)]
    by_cases e : n ≠ 0 ∧ q = n
    · rw [if_pos ⟨e.1, by omega⟩, if_pos e]
    · rw [if_neg (fun h => e ⟨h.1, by omega⟩), if_neg e, fA _ (by omega), if_neg (by omega), if_neg (by omega)]
  have go : numAt (markB bC c) (o + 16) = 0 := by
    rw [fD _ (by omega), if_neg (by omega), fC _ (by omega), if_neg (by omega), fB _ (by omega), if_neg (fun h => by have := hnb h.1; omega), fA _ (by omega), if_pos rfl]
  refine ⟨_, hput, ((tA.trans tB).trans tC).trans tD, ?_, ?_, ?_, ?_, ?_⟩
  · rw [fD 0 rfl, if_pos rfl, g0]; exact setBit_lt h.w0 hc
  · intro d hd
    rw [fD 0 rfl, if_pos rfl, g0, bitAt_set]
    by_cases e : d = c
    · subst e
      rw [if_pos rfl, ghc, if_pos rfl]
      have : o ≠ 0 := by omega
      simp [this]
    · rw [if_neg e, if_neg e]; exact h.bit d hd
  · intro d hd
    by_cases e : d = c
    · subst e
      rw [if_pos rfl]
      have hh : numAt (markB bC d) (headO d) = o := by rw [fD _ hho.2.1, if_neg (by omega), ghc]
      have h2 : ∃ z', Seg (markB bC d) o n (ls d) z' 0 := by
        refine Seg.rehead hz (h.nodup d hd) (fun q hq => ?_) (fun q hq hne => ?_) (fun hne => ?_)
        · have h1 := hpl hd hq
          rw [g8 q h1.1 h1.2.1, if_neg (fun e2 => hno (by rw [← e2]; exact hq))]
        · have h1 := hpl hd hq
          rw [g16 q h1.1 h1.2.1 (fun e2 => hno (by rw [← e2]; exact hq)), if_neg (fun h => hne h.2)]
        · have hne := hnz.2 hne
          have h1 := hnb hne
          rw [g16 n h1.1 h1.2.1 h1.2.2.2.2, if_pos ⟨hne, rfl⟩]
      obtain ⟨z', hz'⟩ := h2
      refine ⟨z', hh, go, ?_⟩
      rw [g8 o (by omega) (by omega), if_pos rfl]
      exact hz'
    · rw [if_neg e]
      obtain ⟨z2, hz2⟩ := h.seg d hd
      refine ⟨z2, ?_⟩
      rw [gh d hd e]
      refine hz2.frame fun q hq => ?_
      have h1 := hpl hd hq
      have h3 : q ≠ o := fun e => hnod d hd (e ▸ hq)
      rw [g8 q h1.1 h1.2.1, g16 q h1.1 h1.2.1 h3, if_neg h3, if_neg]
      · exact ⟨rfl, rfl⟩
      · rintro ⟨h2, rfl⟩; exact e (h.sep ht hd hc hq (hnmem h2))
  · intro d hd q hq
    by_cases e : d = c
    · subst e
      rw [if_pos rfl] at hq
      rcases List.mem_cons.1 hq with rfl | hq
      · exact ⟨x, hx, ho, hu, hcl⟩
      · exact h.mem d hd q hq
    · rw [if_neg e] at hq; exact h.mem d hd q hq
  · intro d hd
    by_cases e : d = c
    · subst e
      rw [if_pos rfl]; exact List.nodup_cons.2 ⟨hno, h.nodup d hd⟩
    · rw [if_neg e]; exact h.nodup d hd
/-! ### Made anew -/
theorem clearB_length {b : List UInt8} (h : 184 ≤ b.length) : (clearB b).length = b.length := by unfold clearB; rw [List.length_append, List.length_replicate, List.length_drop]; omega
theorem clearB_touch {b : List UInt8} (h : 184 ≤ b.length) (bs : List Blk) : Touch (LinkW bs) b (clearB b) := by
  refine ⟨clearB_length h, fun o n hn => ?_⟩
  by_cases h0 : n = 0
  · subst h0; simp
  · have ho : 184 ≤ o := by
      rcases Nat.lt_or_ge o 177 with h1 | h1
      · have := hn o (.inl (by omega)); omega
      · have := hn 176 (.inl (by omega)); omega
    unfold clearB
    rw [List.drop_append, List.drop_of_length_le (by rw [List.length_replicate]; omega), List.nil_append, List.length_replicate, List.drop_drop]
    rw [show 184 + (o - 184) = o by omega]
theorem clearB_num {b : List UInt8} (h : 184 ≤ b.length) (o : Nat) (ho : o + 8 ≤ 184) : numAt (clearB b) o = 0 := by
  unfold numAt
  rw [if_pos (by rw [clearB_length h]; omega)]
  unfold clearB
  rw [List.drop_append_of_le_length (by rw [List.length_replicate]; omega), List.take_append_of_le_length (by rw [List.length_drop, List.length_replicate]; omega), List.drop_replicate, List.take_replicate]
  have : ∀ n, num (List.replicate n 0) = 0 := by
    intro n
    induction n with
    | zero => rfl
    | succ n ih => rw [List.replicate_succ]; unfold num; rw [ih]; rfl
  exact this _
theorem clear_lists {b : List UInt8} {bs : List Blk} (h : 184 ≤ b.length) : Lists (clearB b) bs fun _ => [] := by
  refine ⟨by rw [clearB_num h 0 (by omega)]; decide, fun c hc => ?_, fun c hc => ?_, (fun c hc o ho => by cases ho), fun c hc => List.nodup_nil⟩
  · rw [clearB_num h 0 (by omega)]; unfold bitAt; simp
  · rw [clearB_num h (headO c) (by unfold headO; omega)]; exact ⟨0, rfl, rfl⟩
/-- The lists made anew: the free blocks of each class, the last one first. -/
def anew (bs : List Blk) (c : Nat) : List Nat := ((bs.filter fun x => !x.used && decide (cls x.size = c)).map (·.off)).reverse
theorem anew_snoc (bs : List Blk) (x : Blk) (c : Nat) : anew (bs ++ [x]) c = if x.used = false ∧ cls x.size = c then x.off :: anew bs c else anew bs c := by
  unfold anew
  rw [List.filter_append, List.map_append, List.reverse_append]
  by_cases h : x.used = false ∧ cls x.size = c
  · rw [if_pos h]; simp [h]
  · rw [if_neg h]
    have : (!x.used && decide (cls x.size = c)) = false := by
      cases hu : x.used <;> simp_all
    simp [this]
theorem cls_size {s : Int} (h : isSize s = true) : 0 ≤ cls s ∧ cls s < 22 := by
  have := (isSize_iff s).1 h
  unfold cls; rw [h]; simp only [if_true]
  repeat' split
  all_goals omega
theorem blkAt_isSize {b : List UInt8} {o : Nat} {x : Blk} (h : blkAt b o = some x) : isSize x.size = true := by
  have := blkAt_some h
  exact isSize_yes (by omega)
theorem putAll_lists {bs : List Blk} : ∀ (r p : List Blk) (b : List UInt8), bs = p ++ r → Tile b 184 bs → 184 ≤ b.length → b.length ≤ 16384 → Lists b bs (anew p) → Touch (LinkW bs) b (putAll b r) ∧ Lists (putAll b r) bs (anew bs)
  | [], p, b, hb, _, _, _, h => by
    rw [List.append_nil] at hb
    subst hb
    exact ⟨Touch.refl _ _, h⟩
  | x :: r, p, b, hb, ht, hl, hm, h => by
    have hx : x ∈ bs := by rw [hb]; exact List.mem_append_right _ (List.mem_cons_self ..)
    have hg := (ht.mem hx).2.1
    have hbs : bs = (p ++ [x]) ++ r := by rw [hb]; simp
    unfold putAll
    cases hu : x.used with
    | true =>
      simp only [if_true]
      refine putAll_lists r (p ++ [x]) b hbs ht hl hm ?_
      have : anew (p ++ [x]) = anew p := by funext c; rw [anew_snoc, if_neg]; rw [hu]; simp
      rw [this]; exact h
    | false =>
      have hc := cls_size (blkAt_isSize hg)
      have hno : x.off ∉ anew p (cls x.size).toNat := by
        intro hm
        unfold anew at hm
        rw [List.mem_reverse] at hm
        obtain ⟨y, hy, e⟩ := List.mem_map.1 hm
        have hy := (List.mem_filter.1 hy).1
        have hpw : ∀ (r : List Blk) (o : Nat), Tile b o (r) → r.Pairwise fun u v => u.off ≠ v.off := by
          intro r
          induction r with
          | nil => intro _ _; exact List.Pairwise.nil
          | cons u r ih =>
            intro o h1
            refine List.Pairwise.cons (fun v hv => ?_) (ih _ h1.2)
            have h2 := blkAt_some h1.1
            have h3 := h1.2.mem hv
            omega
        have hp := hpw bs 184 ht
        rw [hb] at hp
        have := (List.pairwise_append.1 hp).2.2 y hy x (List.mem_cons_self ..)
        exact this e
      obtain ⟨b', h1, h2, h3⟩ := putB_lists h ht.good hl hm (c := (cls x.size).toNat) (by omega) hx hu (by omega) hno
      rw [h1]
      simp only [Bool.false_eq_true, if_false, Option.getD_some]
      have h4 := putAll_lists r (p ++ [x]) b' hbs (ht.touch hl h2) (by rw [h2.len]; exact hl) (by rw [h2.len]; exact hm) (by
        have : anew (p ++ [x]) = fun d => if d = (cls x.size).toNat then x.off :: anew p (cls x.size).toNat else anew p d := by
          funext d
          rw [anew_snoc]
          by_cases e : d = (cls x.size).toNat
          · subst e; rw [if_pos ⟨hu, by omega⟩, if_pos rfl]
          · rw [if_neg (by intro h; omega), if_neg e]
        rw [this]; exact h3)
      exact ⟨h2.trans h4.1, h4.2⟩
/-- Made anew, the lists have just the free blocks. -/
theorem rebuild_lists {b : List UInt8} {bs : List Blk} (ht : Tile b 184 bs) (hl : 184 ≤ b.length) (hb : b.length ≤ 16384) :
    ∃ b', rebuildB b = some b' ∧ Touch (LinkW bs) b b' ∧ Tile b' 184 bs ∧ Lists b' bs (anew bs) := by
  have hw := (walkB_tile b bs).2 ⟨hl, ht⟩
  have h1 := clearB_touch hl bs
  have h2 := putAll_lists bs [] (clearB b) rfl (ht.touch hl h1) (by rw [h1.len]; exact hl) (by rw [h1.len]; exact hb) (clear_lists hl)
  refine ⟨putAll (clearB b) bs, by unfold rebuildB; rw [hw]; rfl, h1.trans h2.1, ht.touch hl (h1.trans h2.1), h2.2⟩
end Go.Own

/- Lists of free blocks: the program's small functions. -/
namespace Go.Own
def freeI (b : List UInt8) (o : Int) : Option Nat := if 0 ≤ o then freeB b o.toNat else none
end Go.Own
namespace Go.Proofs.Ytjijniillehfoaa
open Go Go.RowKit Go.Own
set_option linter.unusedVariables false
set_option maxRecDepth 100000
def errF (x : Option Nat) : Value := match x with | none => .iface 183 (.int .i64 3) | some _ => .nilIface
section
variable {B : Nat} {w0 w : World} {l : List Ob} {i p : Nat} {A : Ar}
theorem lst_word (h : St B w0 w l) (hi : l[i]? = some (ArT p A)) (o : Int) (O : Nat) (ho : o = O) (hO : O ≤ 1000000) :
    Calls Try.prog 186 #[arP p, .int .i64 o] w fun e w' => e = .returned (.int .u64 (numAt A.b O : Nat)) ∧ w = w' := by
  subst ho
  obtain ⟨hsm, hbs⟩ := ar_small h hi
  have H := Lib.hid h; have HI := Lib.hid hi
  have KB := Lib.hid (ar_Base h hi)
  have u0 : IntKind.u64.wrap (O : Int) = O := IntWalk.u64_in _ (by omega)
  have u1 : IntKind.u64.wrap ((A.base : Int) + O) = (A.base : Int) + O := IntWalk.u64_in _ (by omega)
  clear h hi
  by_cases hf : O + 8 ≤ A.b.length
  · have KW := Lib.hid (ar_WordAt H.out HI.out ((A.base : Int) + O) O rfl hf)
    clear hf
    go_enter Try.func186, Try.ntmps186
    go_wp2_with fail
    have kc := KB.out
    with_reducible refine kc.mono ?_
    clear kc
    rintro e w' ⟨rfl, rfl⟩
    go_wp2_with fail
    have kc := KW.out
    with_reducible refine kc.mono ?_
    clear kc
    rintro e w' ⟨rfl, rfl⟩
    go_wp2
    go_ret
    exact ⟨rfl, rfl⟩
  · have hn : numAt A.b O = 0 := by unfold numAt; rw [if_neg hf]
    rw [hn]
    have KW := Lib.hid (ar_WordNo H.out HI.out ((A.base : Int) + O) O rfl hO (by omega))
    clear hf hn
    go_enter Try.func186, Try.ntmps186
    go_wp2_with fail
    have kc := KB.out
    with_reducible refine kc.mono ?_
    clear kc
    rintro e w' ⟨rfl, rfl⟩
    go_wp2_with fail
    have kc := KW.out
    with_reducible refine kc.mono ?_
    clear kc
    rintro e w' ⟨rfl, rfl⟩
    go_wp2
    go_ret
    exact ⟨rfl, rfl⟩
theorem lst_set (h : St B w0 w l) (hi : l[i]? = some (ArT p A)) (o : Int) (O : Nat) (ho : o = O) (hO : O + 8 ≤ A.b.length) (x : Int) (X : Nat) (hx : x = X) (hX : X < 18446744073709551616) :
    Calls Try.prog 189 #[arP p, .int .i64 o, .int .u64 x] w fun e w' => e = .returned (.tuple #[]) ∧ St B w0 w' (l.set i (ArT p { A with b := layAt A.b O X })) := by
  subst ho; subst hx
  obtain ⟨hsm, hbs⟩ := ar_small h hi
  have KB := Lib.hid (ar_Base h hi)
  have u0 : IntKind.u64.wrap (O : Int) = O := IntWalk.u64_in _ (by omega)
  have u1 : IntKind.u64.wrap ((A.base : Int) + O) = (A.base : Int) + O := IntWalk.u64_in _ (by omega)
  have KS := Lib.hid (ar_SetAt h hi ((A.base : Int) + O) O rfl hO (X : Int) X rfl hX)
  clear h hi hO
  go_enter Try.func189, Try.ntmps189
  go_wp2_with fail
  have kc := KB.out
  with_reducible refine kc.mono ?_
  clear kc
  rintro e w' ⟨rfl, rfl⟩
  go_wp2_with fail
  have kc := KS.out
  with_reducible refine kc.mono ?_
  clear kc
  rintro e w3 ⟨rfl, t3⟩
  have T3 := Lib.hid t3
  clear t3
  go_wp2
  go_end0
  exact ⟨rfl, T3.out⟩
theorem lst_head (w : World) (c : Nat) (hc : c < 22) : Calls Try.prog 187 #[.int .i64 c] w fun e w' => e = .returned (.int .i64 (headO c : Nat)) ∧ w = w' := by
  have m1 : IntKind.i64.wrap (8 * (c : Int)) = 8 * (c : Int) := IntWalk.i64_in _ (by omega)
  have m2 : IntKind.i64.wrap (8 + 8 * (c : Int)) = ((headO c : Nat) : Int) := by rw [IntWalk.i64_in _ (by omega)]; unfold headO; omega
  go_enter Try.func187, Try.ntmps187
  go_wp2
  go_ret
  exact ⟨rfl, rfl⟩
theorem blkI_nat (b : List UInt8) (o : Nat) : blkI b (o : Int) = blkAt b o := by unfold blkI; rw [if_pos (Int.natCast_nonneg _), Int.toNat_natCast]
set_option maxHeartbeats 4000000 in
theorem lst_member (h : St B w0 w l) (hi : l[i]? = some (ArT p A)) (x : Int) (X : Nat) (hx : x = X) (hX : X < 18446744073709551616) (c : Nat) (hc : c < 22) :
    Calls Try.prog 188 #[arP p, .int .u64 x, .int .i64 c] w fun e w' => e = .returned (.bool (memberB A.b X c)) ∧ St B w0 w' l := by
  subst hx
  obtain ⟨hsm, hbs⟩ := ar_small h hi
  have H := Lib.hid h; have HI := Lib.hid hi
  by_cases hl : 16384 < X
  · have hn : memberB A.b X c = false := by
      unfold memberB
      cases hb : blkAt A.b X with
      | none => rfl
      | some y => have := blkAt_some hb; omega
    rw [hn]
    have d1 : decide ((X : Int) > 16384) = true := decide_eq_true (by omega)
    clear hn h hi hl
    go_enter Try.func188, Try.ntmps188
    go_wp2
    go_ret
    exact ⟨rfl, H.out⟩
  · have d1 : decide ((X : Int) > 16384) = false := decide_eq_false (by omega)
    have u0 : IntKind.i64.wrap (X : Int) = X := IntWalk.i64_in _ (by omega)
    have kg := blk_Get h hi (X : Int)
    rw [blkI_nat] at kg
    unfold memberB
    clear h hi hl
    cases hb : blkAt A.b X with
    | none =>
      rw [hb, show bkV none = .agg #[.int .i64 0, .int .i64 0, .bool false] from rfl, show errO none = .iface 183 (.int .i64 3) from rfl] at kg
      have KG := Lib.hid kg
      clear hb kg
      go_enter Try.func188, Try.ntmps188
      go_wp2_with fail
      have kc := KG.out
      with_reducible refine kc.mono ?_
      clear kc
      rintro e w3 ⟨rfl, t3⟩
      have T3 := Lib.hid t3
      clear t3
      go_wp2_with (first | (refine bk_alloc T3.out rfl rfl ?_; intro g4 w4 h4; have T4 := Lib.hid h4; clear h4) | (refine bk_store T4.out 0 rfl rfl _ _ rfl rfl 0 0 false rfl ?_; intro w5 h5; have T5 := Lib.hid h5; clear h5 T4))
      go_ret
      exact ⟨rfl, T5.out.tail⟩
    | some y =>
      rw [hb, show bkV (some y) = .agg #[.int .i64 y.off, .int .i64 y.size, .bool y.used] from rfl, show errO (some y) = .nilIface from rfl] at kg
      have hys := blkAt_some hb
      have hcy := cls_size (blkAt_isSize hb)
      have y1 : y.size ≤ 16384 := hys.2.2.2.2.1
      have KG := Lib.hid kg
      have KC : Hid (∀ w, _) := Lib.hid fun w => class_Class w (y.size : Int) (by omega) (by omega)
      obtain ⟨C, hC⟩ : ∃ C : Nat, cls y.size = C := ⟨(cls y.size).toNat, by omega⟩
      show Calls _ _ _ _ fun e w' => e = .returned (.bool (!y.used && decide (cls y.size = c))) ∧ St B w0 w' l
      rw [hC] at KC ⊢
      clear hb kg hys hcy hC
      cases hu : y.used with
      | true =>
        rw [hu] at KG
        clear hu
        go_enter Try.func188, Try.ntmps188
        go_wp2_with fail
        have kc := KG.out
        with_reducible refine kc.mono ?_
        clear kc
        rintro e w3 ⟨rfl, t3⟩
        have T3 := Lib.hid t3
        clear t3
        go_wp2_with (first | (refine bk_alloc T3.out rfl rfl ?_; intro g4 w4 h4; have T4 := Lib.hid h4; clear h4) | (refine bk_store T4.out 0 rfl rfl _ _ rfl rfl y.off y.size true rfl ?_; intro w5 h5; have T5 := Lib.hid h5; clear h5 T4; have k2 : w5.cell? ⟨g4, 2, none⟩ = some (.bool true) := (T5.out.row (i := 0) rfl).cell 2))
        go_ret
        exact ⟨rfl, T5.out.tail⟩
      | false =>
        rw [hu] at KG
        clear hu
        go_enter Try.func188, Try.ntmps188
        go_wp2_with fail
        have kc := KG.out
        with_reducible refine kc.mono ?_
        clear kc
        rintro e w3 ⟨rfl, t3⟩
        have T3 := Lib.hid t3
        clear t3
        go_wp2_with (first | (refine bk_alloc T3.out rfl rfl ?_; intro g4 w4 h4; have T4 := Lib.hid h4; clear h4) | (refine bk_store T4.out 0 rfl rfl _ _ rfl rfl y.off y.size false rfl ?_; intro w5 h5; have T5 := Lib.hid h5; clear h5 T4; have k2 : w5.cell? ⟨g4, 2, none⟩ = some (.bool false) := (T5.out.row (i := 0) rfl).cell 2; have k1 : w5.cell? ⟨g4, 1, none⟩ = some (.int .i64 y.size) := (T5.out.row (i := 0) rfl).cell 1))
        have kc := KC.out w5
        with_reducible refine kc.mono ?_
        clear kc
        rintro e w' ⟨rfl, rfl⟩
        go_wp2
        go_ret
        refine ⟨?_, T5.out.tail⟩
        simp only [Bool.not_false, Bool.true_and]
        rfl
set_option maxHeartbeats 4000000 in
theorem lst_free (h : St B w0 w l) (hi : l[i]? = some (ArT p A)) (o : Int) :
    Calls Try.prog 185 #[arP p, .int .i64 o] w fun e w' => e = .returned (.tuple #[.int .i64 ((freeI A.b o).getD 0 : Nat), errF (freeI A.b o)]) ∧ St B w0 w' l := by
  have kg := blk_Get h hi o
  have hf : freeI A.b o = match blkI A.b o with | some x => if x.used then none else some (cls x.size).toNat | none => none := by
    unfold freeI blkI freeB
    split <;> rfl
  have H := Lib.hid h
  clear h hi
  cases hb : blkI A.b o with
  | none =>
    rw [hb] at hf
    rw [hf]
    rw [hb, show bkV none = .agg #[.int .i64 0, .int .i64 0, .bool false] from rfl, show errO none = .iface 183 (.int .i64 3) from rfl] at kg
    have KG := Lib.hid kg
    clear hb kg hf
    go_enter Try.func185, Try.ntmps185
    go_wp2_with fail
    have kc := KG.out
    with_reducible refine kc.mono ?_
    clear kc
    rintro e w3 ⟨rfl, t3⟩
    have T3 := Lib.hid t3
    clear t3
    go_wp2_with (first | (refine bk_alloc T3.out rfl rfl ?_; intro g4 w4 h4; have T4 := Lib.hid h4; clear h4) | (refine bk_store T4.out 0 rfl rfl _ _ rfl rfl 0 0 false rfl ?_; intro w5 h5; have T5 := Lib.hid h5; clear h5 T4))
    go_ret2
    exact ⟨rfl, T5.out.tail⟩
  | some y =>
    rw [hb] at hf
    simp only at hf
    have hys : 32 ≤ y.size ∧ y.size ≤ 16384 ∧ isSize y.size = true := by
      unfold blkI at hb
      split at hb
      · have := blkAt_some hb; exact ⟨this.2.2.2.1, this.2.2.2.2.1, blkAt_isSize hb⟩
      · cases hb
    have hcy := cls_size hys.2.2
    rw [hb, show bkV (some y) = .agg #[.int .i64 y.off, .int .i64 y.size, .bool y.used] from rfl, show errO (some y) = .nilIface from rfl] at kg
    have KC : Hid (∀ w, _) := Lib.hid fun w => class_Class w (y.size : Int) (by omega) (by omega)
    have hC : cls y.size = ((cls y.size).toNat : Nat) := by omega
    rw [hC] at KC
    generalize (cls y.size).toNat = C at *
    clear hb hys hcy hC
    cases hu : y.used with
    | true =>
      rw [hu] at kg hf
      rw [hf]
      have KG := Lib.hid kg
      clear hu kg hf
      go_enter Try.func185, Try.ntmps185
      go_wp2_with fail
      have kc := KG.out
      with_reducible refine kc.mono ?_
      clear kc
      rintro e w3 ⟨rfl, t3⟩
      have T3 := Lib.hid t3
      clear t3
      go_wp2_with (first | (refine bk_alloc T3.out rfl rfl ?_; intro g4 w4 h4; have T4 := Lib.hid h4; clear h4) | (refine bk_store T4.out 0 rfl rfl _ _ rfl rfl y.off y.size true rfl ?_; intro w5 h5; have T5 := Lib.hid h5; clear h5 T4; have k2 : w5.cell? ⟨g4, 2, none⟩ = some (.bool true) := (T5.out.row (i := 0) rfl).cell 2))
      go_ret2
      exact ⟨rfl, T5.out.tail⟩
    | false =>
      rw [hu] at kg hf
      rw [hf]
      have KG := Lib.hid kg
      clear hu kg hf
      go_enter Try.func185, Try.ntmps185
      go_wp2_with fail
      have kc := KG.out
      with_reducible refine kc.mono ?_
      clear kc
      rintro e w3 ⟨rfl, t3⟩
      have T3 := Lib.hid t3
      clear t3
      go_wp2_with (first | (refine bk_alloc T3.out rfl rfl ?_; intro g4 w4 h4; have T4 := Lib.hid h4; clear h4) | (refine bk_store T4.out 0 rfl rfl _ _ rfl rfl y.off y.size false rfl ?_; intro w5 h5; have T5 := Lib.hid h5; clear h5 T4; have k2 : w5.cell? ⟨g4, 2, none⟩ = some (.bool false) := (T5.out.row (i := 0) rfl).cell 2; have k1 : w5.cell? ⟨g4, 1, none⟩ = some (.int .i64 y.size) := (T5.out.row (i := 0) rfl).cell 1))
      have kc := KC.out w5
      with_reducible refine kc.mono ?_
      clear kc
      rintro e w' ⟨rfl, rfl⟩
      go_wp2
      go_ret2
      exact ⟨rfl, T5.out.tail⟩
set_option maxHeartbeats 4000000 in
theorem lst_mark (h : St B w0 w l) (hi : l[i]? = some (ArT p A)) (c : Nat) (hc : c < 22) (hl : 184 ≤ A.b.length) :
    Calls Try.prog 190 #[arP p, .int .i64 c] w fun e w' => e = .returned (.tuple #[]) ∧ St B w0 w' (l.set i (ArT p { A with b := markB A.b c })) := by
  have hw := numAt_lt A.b 0
  have hh := numAt_lt A.b (headO c)
  have hho : headO c ≤ 176 := by unfold headO; omega
  have KW := Lib.hid (lst_word h hi 0 0 rfl (by decide))
  have KH := Lib.hid (lst_word h hi (headO c : Nat) (headO c) rfl (by omega))
  have H := Lib.hid h; have HI := Lib.hid hi; have HL := Lib.hid hl
  unfold markB
  generalize numAt A.b (headO c) = X at *
  generalize numAt A.b 0 = V at *
  clear h hi hl
  go_enter Try.func190, Try.ntmps190
  obtain ⟨P, hP⟩ : ∃ P : Nat, 2 ^ c = P := ⟨_, rfl⟩
  have hP1 : P ≤ 2097152 := by rw [← hP]; exact Nat.pow_le_pow_right (n := 2) (by decide) (show c ≤ 21 by omega)
  have p1 : IntKind.u64.wrap ((2 : Int) ^ c) = (P : Int) := by
    rw [show (2 : Int) ^ c = ((2 ^ c : Nat) : Int) by simp, hP]; exact IntWalk.u64_in _ (by omega)
  have HP := Lib.hid hP
  clear hP
  go_wp2_with fail
  have kc := lst_head w c hc
  with_reducible refine kc.mono ?_
  clear kc
  rintro e w' ⟨rfl, rfl⟩
  go_wp2_with fail
  have kc := KH.out
  with_reducible refine kc.mono ?_
  clear kc
  rintro e w' ⟨rfl, rfl⟩
  by_cases hX : X = 0
  · have e1 : bits .andNot .u64 (V : Int) (P : Int) = ((setBit V c (decide (X ≠ 0)) : Nat) : Int) := by
      rw [u64_andNot _ _ (by omega) (by omega) (by omega) (by omega), Int.toNat_natCast, Int.toNat_natCast, ← HP.out, andNot_bit V c hw hc]
      simp [hX]
    have hlt := setBit_lt64 (v := decide (X ≠ 0)) hw hc
    have KS := Lib.hid (lst_set H.out HI.out 0 0 rfl (by have := HL.out; omega) _ _ e1 hlt)
    clear e1 hlt
    subst hX
    go_wp2_with fail
    have kc := KW.out
    with_reducible refine kc.mono ?_
    clear kc
    rintro e w' ⟨rfl, rfl⟩
    go_wp2_with fail
    have kc := KS.out
    with_reducible refine kc.mono ?_
    clear kc
    rintro e w3 ⟨rfl, t3⟩
    have T3 := Lib.hid t3
    clear t3
    go_wp2
    go_end0
    exact ⟨rfl, T3.out⟩
  · have d0 : ((X : Int) == 0) = false := by rw [beq_eq_false_iff_ne]; omega
    have e1 : bits .or .u64 (V : Int) (P : Int) = ((setBit V c (decide (X ≠ 0)) : Nat) : Int) := by
      rw [u64_or _ _ (by omega) (by omega) (by omega) (by omega), Int.toNat_natCast, Int.toNat_natCast, ← HP.out, or_bit V c]
      simp [hX]
    have hlt := setBit_lt64 (v := decide (X ≠ 0)) hw hc
    have KS := Lib.hid (lst_set H.out HI.out 0 0 rfl (by have := HL.out; omega) _ _ e1 hlt)
    clear e1 hlt
    go_wp2_with fail
    have kc := KW.out
    with_reducible refine kc.mono ?_
    clear kc
    rintro e w' ⟨rfl, rfl⟩
    go_wp2_with fail
    have kc := KS.out
    with_reducible refine kc.mono ?_
    clear kc
    rintro e w3 ⟨rfl, t3⟩
    have T3 := Lib.hid t3
    clear t3
    go_wp2
    go_end0
    exact ⟨rfl, T3.out⟩
end
end Go.Proofs.Ytjijniillehfoaa

/- Lists of free blocks: the program's Put and Take. -/
namespace Go.Own
def putI (b : List UInt8) (o : Int) : Option (List UInt8) := if 0 ≤ o then putB b o.toNat else none
def takeI (b : List UInt8) (o : Int) : Option (List UInt8) := if 0 ≤ o then takeB b o.toNat else none
theorem freeB_some {b : List UInt8} {o c : Nat} (h : freeB b o = some c) : ∃ x, blkAt b o = some x ∧ x.used = false ∧ c = (cls x.size).toNat ∧ c < 22 ∧ 184 ≤ o ∧ o % 16 = 8 ∧ o + 32 ≤ b.length := by
  unfold freeB at h
  cases hb : blkAt b o with
  | none => rw [hb] at h; cases h
  | some x =>
    rw [hb] at h
    simp only at h
    cases hu : x.used with
    | true => rw [hu] at h; cases h
    | false =>
      rw [hu] at h
      simp only [Bool.false_eq_true, if_false, Option.some.injEq] at h
      have h1 := blkAt_some hb
      have h2 := cls_size (blkAt_isSize hb)
      exact ⟨x, rfl, hu, h.symm, by omega, h1.2.1, h1.2.2.1, by omega⟩
theorem freeI_some {b : List UInt8} {o : Int} {c : Nat} (h : freeI b o = some c) : ∃ O : Nat, o = O ∧ freeB b O = some c := by
  unfold freeI at h
  split at h
  · exact ⟨o.toNat, by omega, h⟩
  · cases h
theorem memberB_at {b : List UInt8} {x c : Nat} (h : memberB b x c = true) : 184 ≤ x ∧ x % 16 = 8 ∧ x + 32 ≤ b.length := by
  unfold memberB at h
  cases hb : blkAt b x with
  | none => rw [hb] at h; cases h
  | some y => have h1 := blkAt_some hb; exact ⟨h1.2.1, h1.2.2.1, by omega⟩
end Go.Own
namespace Go.Proofs.Ytjijniillehfoaa
open Go Go.RowKit Go.Own
set_option linter.unusedVariables false
set_option maxRecDepth 100000
def errP (x : Option (List UInt8)) : Value := match x with | none => .iface 183 (.int .i64 3) | some _ => .nilIface
section
variable {B : Nat} {w0 w : World} {l : List Ob} {i p bs cp : Nat} {b : List UInt8}
/-! ### With the arena's bytes at hand -/
theorem at_set (hil : i < l.length) (P : Ob) : (l.set i P)[i]? = some P := List.getElem?_set_self hil
theorem ls_small (h : St B w0 w (l.set i (ArT p ⟨bs, cp, b⟩))) (hil : i < l.length) : b.length ≤ 16384 ∧ bs ≤ 4611686018427387904 := ar_small h (at_set hil _)
theorem ls_word (h : St B w0 w (l.set i (ArT p ⟨bs, cp, b⟩))) (hil : i < l.length) (o : Int) (O : Nat) (ho : o = O) (hO : O ≤ 1000000) :
    Calls Try.prog 186 #[arP p, .int .i64 o] w fun e w' => e = .returned (.int .u64 (numAt b O : Nat)) ∧ w = w' := lst_word h (at_set hil _) o O ho hO
theorem ls_set (h : St B w0 w (l.set i (ArT p ⟨bs, cp, b⟩))) (hil : i < l.length) (o : Int) (O : Nat) (ho : o = O) (hO : O + 8 ≤ b.length) (x : Int) (X : Nat) (hx : x = X) (hX : X < 18446744073709551616) :
    Calls Try.prog 189 #[arP p, .int .i64 o, .int .u64 x] w fun e w' => e = .returned (.tuple #[]) ∧ St B w0 w' (l.set i (ArT p ⟨bs, cp, layAt b O X⟩)) := by
  refine (lst_set h (at_set hil _) o O ho hO x X hx hX).mono ?_
  rintro e w' ⟨rfl, h1⟩
  rw [List.set_set] at h1
  exact ⟨rfl, h1⟩
theorem ls_member (h : St B w0 w (l.set i (ArT p ⟨bs, cp, b⟩))) (hil : i < l.length) (x : Int) (X : Nat) (hx : x = X) (hX : X < 18446744073709551616) (c : Nat) (hc : c < 22) :
    Calls Try.prog 188 #[arP p, .int .u64 x, .int .i64 c] w fun e w' => e = .returned (.bool (memberB b X c)) ∧ St B w0 w' (l.set i (ArT p ⟨bs, cp, b⟩)) := lst_member h (at_set hil _) x X hx hX c hc
theorem ls_mark (h : St B w0 w (l.set i (ArT p ⟨bs, cp, b⟩))) (hil : i < l.length) (c : Nat) (hc : c < 22) (hl : 184 ≤ b.length) :
    Calls Try.prog 190 #[arP p, .int .i64 c] w fun e w' => e = .returned (.tuple #[]) ∧ St B w0 w' (l.set i (ArT p ⟨bs, cp, markB b c⟩)) := by
  refine (lst_mark h (at_set hil _) c hc hl).mono ?_
  rintro e w' ⟨rfl, h1⟩
  rw [List.set_set] at h1
  exact ⟨rfl, h1⟩
theorem ls_free (h : St B w0 w (l.set i (ArT p ⟨bs, cp, b⟩))) (hil : i < l.length) (o : Int) :
    Calls Try.prog 185 #[arP p, .int .i64 o] w fun e w' => e = .returned (.tuple #[.int .i64 ((freeI b o).getD 0 : Nat), errF (freeI b o)]) ∧ St B w0 w' (l.set i (ArT p ⟨bs, cp, b⟩)) := lst_free h (at_set hil _) o
set_option maxHeartbeats 8000000 in
theorem ls_Put (h : St B w0 w (l.set i (ArT p ⟨bs, cp, b⟩))) (hil : i < l.length) (o : Int) :
    Calls Try.prog 88 #[arP p, .int .i64 o] w fun e w' => e = .returned (errP (putI b o)) ∧ St B w0 w' (l.set i (ArT p ⟨bs, cp, (putI b o).getD b⟩)) := by
  obtain ⟨hsm, hbs⟩ := ls_small h hil
  have kf := ls_free h hil o
  have H := Lib.hid h
  clear h
  cases hF : freeI b o with
  | none =>
    have hn : putI b o = none := by
      unfold freeI at hF; unfold putI
      split
      · rename_i h0; rw [if_pos h0] at hF; unfold putB; rw [hF]
      · rfl
    rw [hF, show errF none = .iface 183 (.int .i64 3) from rfl] at kf
    rw [hn]
    have KF := Lib.hid kf
    clear hF hn kf
    go_enter Try.func88, Try.ntmps88
    go_wp2_with fail
    have kc := KF.out
    with_reducible refine kc.mono ?_
    clear kc
    rintro e w3 ⟨rfl, t3⟩
    have T3 := Lib.hid t3
    clear t3
    go_wp2
    go_ret
    exact ⟨rfl, T3.out⟩
  | some c =>
    rw [hF, show errF (some c) = .nilIface from rfl, Option.getD_some] at kf
    have KF := Lib.hid kf
    obtain ⟨O, rfl, hF2⟩ := freeI_some hF
    obtain ⟨x, -, -, -, hc, o1, o2, o3⟩ := freeB_some hF2
    have hP : putI b (O : Int) = putB b O := by unfold putI; rw [if_pos (Int.natCast_nonneg _), Int.toNat_natCast]
    unfold putB at hP
    rw [hF2] at hP
    simp only at hP
    rw [hP]
    have hX := numAt_lt b (headO c)
    have hho : headO c ≤ 176 := by unfold headO; omega
    have KWH := fun w' (h : St B w0 w' (l.set i (ArT p ⟨bs, cp, b⟩))) => ls_word h hil (headO c : Nat) (headO c) rfl (by omega)
    have KW := Lib.hid KWH
    generalize numAt b (headO c) = X at *
    have u0 : IntKind.u64.wrap (O : Int) = O := IntWalk.u64_in _ (by omega)
    have HO := Lib.hid (And.intro o1 (And.intro o2 o3))
    clear hP hF hF2 kf KWH o2
    by_cases e1 : X = O
    · rw [if_pos (.inl e1)]
      subst e1
      go_enter Try.func88, Try.ntmps88
      go_wp2_with fail
      have kc := KF.out
      with_reducible refine kc.mono ?_
      clear kc
      rintro e w3 ⟨rfl, t3⟩
      have T3 := Lib.hid t3
      clear t3
      go_wp2_with fail
      have kc := lst_head w3 c hc
      with_reducible refine kc.mono ?_
      clear kc
      rintro e w' ⟨rfl, rfl⟩
      go_wp2_with fail
      have kc := KW.out _ T3.out
      with_reducible refine kc.mono ?_
      clear kc
      rintro e w' ⟨rfl, rfl⟩
      go_wp2
      go_ret
      exact ⟨rfl, T3.out⟩
    · have d1 : ((X : Int) == (O : Int)) = false := by rw [beq_eq_false_iff_ne]; omega
      have m1 : IntKind.i64.wrap ((O : Int) + 8) = (O : Int) + 8 := IntWalk.i64_in _ (by omega)
      have m2 : IntKind.i64.wrap ((O : Int) + 16) = (O : Int) + 16 := IntWalk.i64_in _ (by omega)
      by_cases e2 : X = 0
      · subst e2
        rw [if_neg (by simp; omega), if_pos rfl]
        have l1 : (layAt b (O + 8) 0).length = b.length := layAt_length _ _ _ (by omega)
        have l2 : (layAt (layAt b (O + 8) 0) (O + 16) 0).length = b.length := by rw [layAt_length _ _ _ (by omega)]; exact l1
        have l3 : (layAt (layAt (layAt b (O + 8) 0) (O + 16) 0) (headO c) O).length = b.length := by rw [layAt_length _ _ _ (by omega)]; exact l2
        have HL := Lib.hid (And.intro l1 (And.intro l2 l3))
        clear l1 l2 l3 e1
        go_enter Try.func88, Try.ntmps88
        go_wp2_with fail
        have kc := KF.out
        with_reducible refine kc.mono ?_
        clear kc
        rintro e w3 ⟨rfl, t3⟩
        have T3 := Lib.hid t3
        clear t3
        go_wp2_with fail
        have kc := lst_head w3 c hc
        with_reducible refine kc.mono ?_
        clear kc
        rintro e w' ⟨rfl, rfl⟩
        go_wp2_with fail
        have kc := KW.out _ T3.out
        with_reducible refine kc.mono ?_
        clear kc
        rintro e w' ⟨rfl, rfl⟩
        go_wp2_with fail
        have kc := ls_set T3.out hil ((O : Int) + 8) (O + 8) (by omega) (by have := HO.out; omega) 0 0 rfl (by decide)
        with_reducible refine kc.mono ?_
        clear kc
        rintro e w4 ⟨rfl, t4⟩
        have T4 := Lib.hid t4
        clear t4
        go_wp2_with fail
        have kc := ls_set T4.out hil ((O : Int) + 16) (O + 16) (by omega) (by have := HO.out; have := HL.out; omega) 0 0 rfl (by decide)
        with_reducible refine kc.mono ?_
        clear kc
        rintro e w5 ⟨rfl, t5⟩
        have T5 := Lib.hid t5
        clear t5
        go_wp2_with fail
        have kc := lst_head w5 c hc
        with_reducible refine kc.mono ?_
        clear kc
        rintro e w' ⟨rfl, rfl⟩
        go_wp2_with fail
        have kc := ls_set T5.out hil _ (headO c) rfl (by have := HO.out; have := HL.out; omega) O O rfl (by omega)
        with_reducible refine kc.mono ?_
        clear kc
        rintro e w6 ⟨rfl, t6⟩
        have T6 := Lib.hid t6
        clear t6
        go_wp2_with fail
        have kc := ls_mark T6.out hil c hc (by have := HO.out; have := HL.out; omega)
        with_reducible refine kc.mono ?_
        clear kc
        rintro e w7 ⟨rfl, t7⟩
        have T7 := Lib.hid t7
        clear t7
        go_wp2
        go_ret
        exact ⟨rfl, T7.out⟩
      · have d2 : ((X : Int) == 0) = false := by rw [beq_eq_false_iff_ne]; omega
        have d3 : ((X : Int) != 0) = true := by rw [bne_iff_ne]; omega
        cases hm : memberB b X c with
        | false =>
          rw [if_pos (.inr ⟨e2, rfl⟩)]
          go_enter Try.func88, Try.ntmps88
          go_wp2_with fail
          have kc := KF.out
          with_reducible refine kc.mono ?_
          clear kc
          rintro e w3 ⟨rfl, t3⟩
          have T3 := Lib.hid t3
          clear t3
          go_wp2_with fail
          have kc := lst_head w3 c hc
          with_reducible refine kc.mono ?_
          clear kc
          rintro e w' ⟨rfl, rfl⟩
          go_wp2_with fail
          have kc := KW.out _ T3.out
          with_reducible refine kc.mono ?_
          clear kc
          rintro e w' ⟨rfl, rfl⟩
          go_wp2_with fail
          have kc := ls_member T3.out hil X X rfl hX c hc
          rw [hm] at kc
          with_reducible refine kc.mono ?_
          clear kc
          rintro e w4 ⟨rfl, t4⟩
          have T4 := Lib.hid t4
          clear t4
          go_wp2
          go_ret
          exact ⟨rfl, T4.out⟩
        | true =>
          obtain ⟨x1, x2, x3⟩ := memberB_at hm
          rw [if_neg (by simp [e1]), if_neg e2]
          have u1 : IntKind.i64.wrap (X : Int) = X := IntWalk.i64_in _ (by omega)
          have m3 : IntKind.i64.wrap ((X : Int) + 16) = (X : Int) + 16 := IntWalk.i64_in _ (by omega)
          have l1 : (layAt b (O + 8) X).length = b.length := layAt_length _ _ _ (by omega)
          have l2 : (layAt (layAt b (O + 8) X) (O + 16) 0).length = b.length := by rw [layAt_length _ _ _ (by omega)]; exact l1
          have l3 : (layAt (layAt (layAt b (O + 8) X) (O + 16) 0) (X + 16) O).length = b.length := by rw [layAt_length _ _ _ (by omega)]; exact l2
          have l4 : (layAt (layAt (layAt (layAt b (O + 8) X) (O + 16) 0) (X + 16) O) (headO c) O).length = b.length := by rw [layAt_length _ _ _ (by omega)]; exact l3
          have HL := Lib.hid (And.intro l1 (And.intro l2 (And.intro l3 l4)))
          have HX := Lib.hid x3
          clear l1 l2 l3 l4 e1 x1 x2 x3
          go_enter Try.func88, Try.ntmps88
          go_wp2_with fail
          have kc := KF.out
          with_reducible refine kc.mono ?_
          clear kc
          rintro e w3 ⟨rfl, t3⟩
          have T3 := Lib.hid t3
          clear t3
          go_wp2_with fail
          have kc := lst_head w3 c hc
          with_reducible refine kc.mono ?_
          clear kc
          rintro e w' ⟨rfl, rfl⟩
          go_wp2_with fail
          have kc := KW.out _ T3.out
          with_reducible refine kc.mono ?_
          clear kc
          rintro e w' ⟨rfl, rfl⟩
          go_wp2_with fail
          have kc := ls_member T3.out hil X X rfl hX c hc
          rw [hm] at kc
          with_reducible refine kc.mono ?_
          clear kc
          rintro e w4 ⟨rfl, t4⟩
          have T4 := Lib.hid t4
          clear t4
          go_wp2_with fail
          have kc := ls_set T4.out hil ((O : Int) + 8) (O + 8) (by omega) (by have := HO.out; omega) X X rfl hX
          with_reducible refine kc.mono ?_
          clear kc
          rintro e w5 ⟨rfl, t5⟩
          have T5 := Lib.hid t5
          clear t5
          go_wp2_with fail
          have kc := ls_set T5.out hil ((O : Int) + 16) (O + 16) (by omega) (by have := HO.out; have := HL.out; omega) 0 0 rfl (by decide)
          with_reducible refine kc.mono ?_
          clear kc
          rintro e w6 ⟨rfl, t6⟩
          have T6 := Lib.hid t6
          clear t6
          go_wp2_with fail
          have kc := ls_set T6.out hil ((X : Int) + 16) (X + 16) (by omega) (by have := HX.out; have := HL.out; omega) O O rfl (by omega)
          with_reducible refine kc.mono ?_
          clear kc
          rintro e w7 ⟨rfl, t7⟩
          have T7 := Lib.hid t7
          clear t7
          go_wp2_with fail
          have kc := lst_head w7 c hc
          with_reducible refine kc.mono ?_
          clear kc
          rintro e w' ⟨rfl, rfl⟩
          go_wp2_with fail
          have kc := ls_set T7.out hil _ (headO c) rfl (by have := HO.out; have := HL.out; omega) O O rfl (by omega)
          with_reducible refine kc.mono ?_
          clear kc
          rintro e w8 ⟨rfl, t8⟩
          have T8 := Lib.hid t8
          clear t8
          go_wp2_with fail
          have kc := ls_mark T8.out hil c hc (by have := HO.out; have := HL.out; omega)
          with_reducible refine kc.mono ?_
          clear kc
          rintro e w9 ⟨rfl, t9⟩
          have T9 := Lib.hid t9
          clear t9
          go_wp2
          go_ret
          exact ⟨rfl, T9.out⟩
end
end Go.Proofs.Ytjijniillehfoaa

/- Lists of free blocks: the program's Take. -/
namespace Go.Proofs.Ytjijniillehfoaa
open Go Go.RowKit Go.Own
set_option linter.unusedVariables false
set_option maxRecDepth 100000
section
variable {B : Nat} {w0 w : World} {l : List Ob} {i p bs cp : Nat} {b : List UInt8}
set_option maxHeartbeats 8000000 in
theorem ls_Take (h : St B w0 w (l.set i (ArT p ⟨bs, cp, b⟩))) (hil : i < l.length) (o : Int) :
    Calls Try.prog 89 #[arP p, .int .i64 o] w fun e w' => e = .returned (errP (takeI b o)) ∧ St B w0 w' (l.set i (ArT p ⟨bs, cp, (takeI b o).getD b⟩)) := by
  obtain ⟨hsm, hbs⟩ := ls_small h hil
  have kf := ls_free h hil o
  have H := Lib.hid h
  clear h
  cases hF : freeI b o with
  | none =>
    have hn : takeI b o = none := by
      unfold freeI at hF; unfold takeI
      split
      · rename_i h0; rw [if_pos h0] at hF; unfold takeB; rw [hF]
      · rfl
    rw [hF, show errF none = .iface 183 (.int .i64 3) from rfl] at kf
    rw [hn]
    have KF := Lib.hid kf
    clear hF hn kf
    go_enter Try.func89, Try.ntmps89
    go_wp2_with fail
    have kc := KF.out
    with_reducible refine kc.mono ?_
    clear kc
    rintro e w3 ⟨rfl, t3⟩
    have T3 := Lib.hid t3
    clear t3
    go_wp2
    go_ret
    exact ⟨rfl, T3.out⟩
  | some c =>
    rw [hF, show errF (some c) = .nilIface from rfl, Option.getD_some] at kf
    have KF := Lib.hid kf
    obtain ⟨O, rfl, hF2⟩ := freeI_some hF
    obtain ⟨x, -, -, -, hc, o1, o2, o3⟩ := freeB_some hF2
    have hT : takeI b (O : Int) = takeB b O := by unfold takeI; rw [if_pos (Int.natCast_nonneg _), Int.toNat_natCast]
    unfold takeB at hT
    rw [hF2] at hT
    simp only at hT
    have hX := numAt_lt b (headO c); have hP := numAt_lt b (O + 16); have hN := numAt_lt b (O + 8)
    have hho : headO c ≤ 176 := by unfold headO; omega
    obtain ⟨X, hXe⟩ : ∃ X, numAt b (headO c) = X := ⟨_, rfl⟩
    obtain ⟨P, hPe⟩ : ∃ P, numAt b (O + 16) = P := ⟨_, rfl⟩
    obtain ⟨N, hNe⟩ : ∃ N, numAt b (O + 8) = N := ⟨_, rfl⟩
    rw [hXe, hPe, hNe] at hT
    rw [hXe] at hX; rw [hPe] at hP; rw [hNe] at hN
    have HXE := Lib.hid hXe; have HPE := Lib.hid hPe; have HNE := Lib.hid hNe
    have u0 : IntKind.u64.wrap (O : Int) = O := IntWalk.u64_in _ (by omega)
    have m1 : IntKind.i64.wrap ((O : Int) + 8) = (O : Int) + 8 := IntWalk.i64_in _ (by omega)
    have m2 : IntKind.i64.wrap ((O : Int) + 16) = (O : Int) + 16 := IntWalk.i64_in _ (by omega)
    have HO := Lib.hid (And.intro o1 (And.intro o2 o3))
    have HT := Lib.hid hT
    clear hT hF hF2 kf o2 hXe hPe hNe
    by_cases e1 : P = 0
    · have z1 : ((P : Int) == 0) = true := by rw [e1]; rfl
      have z1' : ((P : Int) != 0) = false := by rw [e1]; rfl
      by_cases e2 : X = O
      · have z4 : ((X : Int) != (O : Int)) = false := by rw [e2]; simp
        by_cases e4 : N = 0
        · have z2 : ((N : Int) != 0) = false := by rw [e4]; rfl
          have hr := HT.out
          rw [if_neg (fun h => h.elim (fun h => h.2 e2) (fun h => h.elim (fun h => h.1 e1) (fun h => h.1 e4))), if_pos e1, if_pos e4] at hr
          rw [hr, show errP (some (markB (layAt b (headO c) N) c)) = .nilIface from rfl, Option.getD_some]
          clear hr
          have l1 : (layAt b (headO c) N).length = b.length := layAt_length _ _ _ (by omega)
          have HL := Lib.hid l1
          clear l1
          go_enter Try.func89, Try.ntmps89
          go_wp2_with fail
          have kc := KF.out
          with_reducible refine kc.mono ?_
          clear kc
          rintro e w3 ⟨rfl, t3⟩
          have T3 := Lib.hid t3
          clear t3
          go_wp2_with fail
          have kc := ls_word T3.out hil ((O : Int) + 16) (O + 16) (by omega) (by omega)
          rw [HPE.out] at kc
          with_reducible refine kc.mono ?_
          clear kc
          rintro e w' ⟨rfl, rfl⟩
          go_wp2_with fail
          have kc := ls_word T3.out hil ((O : Int) + 8) (O + 8) (by omega) (by omega)
          rw [HNE.out] at kc
          with_reducible refine kc.mono ?_
          clear kc
          rintro e w' ⟨rfl, rfl⟩
          go_wp2_with fail
          have kc := lst_head w3 c hc
          with_reducible refine kc.mono ?_
          clear kc
          rintro e w' ⟨rfl, rfl⟩
          go_wp2_with fail
          have kc := ls_word T3.out hil (headO c : Nat) (headO c) rfl (by omega)
          rw [HXE.out] at kc
          with_reducible refine kc.mono ?_
          clear kc
          rintro e w' ⟨rfl, rfl⟩
          go_wp2_with fail
          have kc := lst_head w3 c hc
          with_reducible refine kc.mono ?_
          clear kc
          rintro e w' ⟨rfl, rfl⟩
          go_wp2_with fail
          have kc := ls_set T3.out hil (headO c : Nat) (headO c) rfl (by omega) 0 N (by omega) hN
          with_reducible refine kc.mono ?_
          clear kc
          rintro e w6 ⟨rfl, t6⟩
          have T6 := Lib.hid t6
          clear t6
          go_wp2_with fail
          have kc := ls_mark T6.out hil c hc (by rw [HL.out]; omega)
          with_reducible refine kc.mono ?_
          clear kc
          rintro e w8 ⟨rfl, t8⟩
          have T8 := Lib.hid t8
          clear t8
          go_wp2
          go_ret
          exact ⟨rfl, T8.out⟩
        · have z2 : ((N : Int) != 0) = true := by rw [bne_iff_ne]; omega
          cases hm2 : memberB b N c with
          | false =>
            have HMN := Lib.hid hm2
            clear hm2
            have hr : takeI b (O : Int) = none := by rw [HT.out, if_pos (.inr (.inr ⟨e4, .inl HMN.out⟩))]
            rw [hr]
            clear hr
            go_enter Try.func89, Try.ntmps89
            go_wp2_with fail
            have kc := KF.out
            with_reducible refine kc.mono ?_
            clear kc
            rintro e w3 ⟨rfl, t3⟩
            have T3 := Lib.hid t3
            clear t3
            go_wp2_with fail
            have kc := ls_word T3.out hil ((O : Int) + 16) (O + 16) (by omega) (by omega)
            rw [HPE.out] at kc
            with_reducible refine kc.mono ?_
            clear kc
            rintro e w' ⟨rfl, rfl⟩
            go_wp2_with fail
            have kc := ls_word T3.out hil ((O : Int) + 8) (O + 8) (by omega) (by omega)
            rw [HNE.out] at kc
            with_reducible refine kc.mono ?_
            clear kc
            rintro e w' ⟨rfl, rfl⟩
            go_wp2_with fail
            have kc := lst_head w3 c hc
            with_reducible refine kc.mono ?_
            clear kc
            rintro e w' ⟨rfl, rfl⟩
            go_wp2_with fail
            have kc := ls_word T3.out hil (headO c : Nat) (headO c) rfl (by omega)
            rw [HXE.out] at kc
            with_reducible refine kc.mono ?_
            clear kc
            rintro e w' ⟨rfl, rfl⟩
            go_wp2_with fail
            have kc := ls_member T3.out hil N N rfl hN c hc
            rw [HMN.out] at kc
            with_reducible refine kc.mono ?_
            clear kc
            rintro e w5 ⟨rfl, t5⟩
            have T5 := Lib.hid t5
            clear t5
            go_wp2
            go_ret
            exact ⟨rfl, T5.out⟩
          | true =>
            obtain ⟨n1, n2, n3⟩ := memberB_at hm2
            have HMN := Lib.hid hm2
            clear hm2 n1 n2
            have un : IntKind.i64.wrap (N : Int) = N := IntWalk.i64_in _ (by omega)
            have mn : IntKind.i64.wrap ((N : Int) + 16) = (N : Int) + 16 := IntWalk.i64_in _ (by omega)
            obtain ⟨R, hR⟩ : ∃ R, numAt b (N + 16) = R := ⟨_, rfl⟩
            have HQN := Lib.hid hR
            by_cases e5 : R = O
            · have z3 : ((R : Int) != (O : Int)) = false := by rw [e5]; simp
              rw [← hR] at e5
              clear hR
              have hr := HT.out
              rw [if_neg (fun h => h.elim (fun h => h.2 e2) (fun h => h.elim (fun h => h.1 e1) (fun h => h.2.elim (fun h => by rw [HMN.out] at h; cases h) (fun h => h e5)))), if_pos e1, if_neg e4] at hr
              rw [hr, show errP (some (markB (layAt (layAt b (headO c) N) (N + 16) P) c)) = .nilIface from rfl, Option.getD_some]
              clear hr
              have l1 : (layAt b (headO c) N).length = b.length := layAt_length _ _ _ (by omega)
              have l2 : (layAt (layAt b (headO c) N) (N + 16) P).length = b.length := by rw [layAt_length _ _ _ (by omega)]; exact l1
              have HL := Lib.hid l1
              have HL2 := Lib.hid l2
              clear l1 l2
              go_enter Try.func89, Try.ntmps89
              go_wp2_with fail
              have kc := KF.out
              with_reducible refine kc.mono ?_
              clear kc
              rintro e w3 ⟨rfl, t3⟩
              have T3 := Lib.hid t3
              clear t3
              go_wp2_with fail
              have kc := ls_word T3.out hil ((O : Int) + 16) (O + 16) (by omega) (by omega)
              rw [HPE.out] at kc
              with_reducible refine kc.mono ?_
              clear kc
              rintro e w' ⟨rfl, rfl⟩
              go_wp2_with fail
              have kc := ls_word T3.out hil ((O : Int) + 8) (O + 8) (by omega) (by omega)
              rw [HNE.out] at kc
              with_reducible refine kc.mono ?_
              clear kc
              rintro e w' ⟨rfl, rfl⟩
              go_wp2_with fail
              have kc := lst_head w3 c hc
              with_reducible refine kc.mono ?_
              clear kc
              rintro e w' ⟨rfl, rfl⟩
              go_wp2_with fail
              have kc := ls_word T3.out hil (headO c : Nat) (headO c) rfl (by omega)
              rw [HXE.out] at kc
              with_reducible refine kc.mono ?_
              clear kc
              rintro e w' ⟨rfl, rfl⟩
              go_wp2_with fail
              have kc := ls_member T3.out hil N N rfl hN c hc
              rw [HMN.out] at kc
              with_reducible refine kc.mono ?_
              clear kc
              rintro e w5 ⟨rfl, t5⟩
              have T5 := Lib.hid t5
              clear t5
              go_wp2_with fail
              have kc := ls_word T5.out hil ((N : Int) + 16) (N + 16) (by omega) (by omega)
              rw [HQN.out] at kc
              with_reducible refine kc.mono ?_
              clear kc
              rintro e w' ⟨rfl, rfl⟩
              go_wp2_with fail
              have kc := lst_head w5 c hc
              with_reducible refine kc.mono ?_
              clear kc
              rintro e w' ⟨rfl, rfl⟩
              go_wp2_with fail
              have kc := ls_set T5.out hil (headO c : Nat) (headO c) rfl (by omega) N N rfl hN
              with_reducible refine kc.mono ?_
              clear kc
              rintro e w6 ⟨rfl, t6⟩
              have T6 := Lib.hid t6
              clear t6
              go_wp2_with fail
              have kc := ls_set T6.out hil ((N : Int) + 16) (N + 16) (by omega) (by rw [HL.out]; omega) 0 P (by omega) hP
              with_reducible refine kc.mono ?_
              clear kc
              rintro e w7 ⟨rfl, t7⟩
              have T7 := Lib.hid t7
              clear t7
              go_wp2_with fail
              have kc := ls_mark T7.out hil c hc (by rw [HL2.out]; omega)
              with_reducible refine kc.mono ?_
              clear kc
              rintro e w8 ⟨rfl, t8⟩
              have T8 := Lib.hid t8
              clear t8
              go_wp2
              go_ret
              exact ⟨rfl, T8.out⟩
            · have z3 : ((R : Int) != (O : Int)) = true := by rw [bne_iff_ne]; omega
              rw [← hR] at e5
              clear hR
              have hr : takeI b (O : Int) = none := by rw [HT.out, if_pos (.inr (.inr ⟨e4, .inr e5⟩))]
              rw [hr]
              clear hr
              go_enter Try.func89, Try.ntmps89
              go_wp2_with fail
              have kc := KF.out
              with_reducible refine kc.mono ?_
              clear kc
              rintro e w3 ⟨rfl, t3⟩
              have T3 := Lib.hid t3
              clear t3
              go_wp2_with fail
              have kc := ls_word T3.out hil ((O : Int) + 16) (O + 16) (by omega) (by omega)
              rw [HPE.out] at kc
              with_reducible refine kc.mono ?_
              clear kc
              rintro e w' ⟨rfl, rfl⟩
              go_wp2_with fail
              have kc := ls_word T3.out hil ((O : Int) + 8) (O + 8) (by omega) (by omega)
              rw [HNE.out] at kc
              with_reducible refine kc.mono ?_
              clear kc
              rintro e w' ⟨rfl, rfl⟩
              go_wp2_with fail
              have kc := lst_head w3 c hc
              with_reducible refine kc.mono ?_
              clear kc
              rintro e w' ⟨rfl, rfl⟩
              go_wp2_with fail
              have kc := ls_word T3.out hil (headO c : Nat) (headO c) rfl (by omega)
              rw [HXE.out] at kc
              with_reducible refine kc.mono ?_
              clear kc
              rintro e w' ⟨rfl, rfl⟩
              go_wp2_with fail
              have kc := ls_member T3.out hil N N rfl hN c hc
              rw [HMN.out] at kc
              with_reducible refine kc.mono ?_
              clear kc
              rintro e w5 ⟨rfl, t5⟩
              have T5 := Lib.hid t5
              clear t5
              go_wp2_with fail
              have kc := ls_word T5.out hil ((N : Int) + 16) (N + 16) (by omega) (by omega)
              rw [HQN.out] at kc
              with_reducible refine kc.mono ?_
              clear kc
              rintro e w' ⟨rfl, rfl⟩
              go_wp2
              go_ret
              exact ⟨rfl, T5.out⟩
      · have z4 : ((X : Int) != (O : Int)) = true := by rw [bne_iff_ne]; omega
        have hr : takeI b (O : Int) = none := by rw [HT.out, if_pos (.inl ⟨e1, e2⟩)]
        rw [hr]
        clear hr
        go_enter Try.func89, Try.ntmps89
        go_wp2_with fail
        have kc := KF.out
        with_reducible refine kc.mono ?_
        clear kc
        rintro e w3 ⟨rfl, t3⟩
        have T3 := Lib.hid t3
        clear t3
        go_wp2_with fail
        have kc := ls_word T3.out hil ((O : Int) + 16) (O + 16) (by omega) (by omega)
        rw [HPE.out] at kc
        with_reducible refine kc.mono ?_
        clear kc
        rintro e w' ⟨rfl, rfl⟩
        go_wp2_with fail
        have kc := ls_word T3.out hil ((O : Int) + 8) (O + 8) (by omega) (by omega)
        rw [HNE.out] at kc
        with_reducible refine kc.mono ?_
        clear kc
        rintro e w' ⟨rfl, rfl⟩
        go_wp2_with fail
        have kc := lst_head w3 c hc
        with_reducible refine kc.mono ?_
        clear kc
        rintro e w' ⟨rfl, rfl⟩
        go_wp2_with fail
        have kc := ls_word T3.out hil (headO c : Nat) (headO c) rfl (by omega)
        rw [HXE.out] at kc
        with_reducible refine kc.mono ?_
        clear kc
        rintro e w' ⟨rfl, rfl⟩
        go_wp2
        go_ret
        exact ⟨rfl, T3.out⟩
    · have z1 : ((P : Int) == 0) = false := by rw [beq_eq_false_iff_ne]; omega
      have z1' : ((P : Int) != 0) = true := by rw [bne_iff_ne]; omega
      cases hm1 : memberB b P c with
      | false =>
        have HMP := Lib.hid hm1
        clear hm1
        have hr : takeI b (O : Int) = none := by rw [HT.out, if_pos (.inr (.inl ⟨e1, .inl HMP.out⟩))]
        rw [hr]
        clear hr
        go_enter Try.func89, Try.ntmps89
        go_wp2_with fail
        have kc := KF.out
        with_reducible refine kc.mono ?_
        clear kc
        rintro e w3 ⟨rfl, t3⟩
        have T3 := Lib.hid t3
        clear t3
        go_wp2_with fail
        have kc := ls_word T3.out hil ((O : Int) + 16) (O + 16) (by omega) (by omega)
        rw [HPE.out] at kc
        with_reducible refine kc.mono ?_
        clear kc
        rintro e w' ⟨rfl, rfl⟩
        go_wp2_with fail
        have kc := ls_word T3.out hil ((O : Int) + 8) (O + 8) (by omega) (by omega)
        rw [HNE.out] at kc
        with_reducible refine kc.mono ?_
        clear kc
        rintro e w' ⟨rfl, rfl⟩
        go_wp2_with fail
        have kc := ls_member T3.out hil P P rfl hP c hc
        rw [HMP.out] at kc
        with_reducible refine kc.mono ?_
        clear kc
        rintro e w4 ⟨rfl, t4⟩
        have T4 := Lib.hid t4
        clear t4
        go_wp2
        go_ret
        exact ⟨rfl, T4.out⟩
      | true =>
        obtain ⟨p1, p2, p3⟩ := memberB_at hm1
        have HMP := Lib.hid hm1
        clear hm1 p1 p2
        have up : IntKind.i64.wrap (P : Int) = P := IntWalk.i64_in _ (by omega)
        have mp : IntKind.i64.wrap ((P : Int) + 8) = (P : Int) + 8 := IntWalk.i64_in _ (by omega)
        obtain ⟨Y, hY⟩ : ∃ Y, numAt b (P + 8) = Y := ⟨_, rfl⟩
        have HQP := Lib.hid hY
        by_cases e3 : Y = O
        · have z5 : ((Y : Int) != (O : Int)) = false := by rw [e3]; simp
          rw [← hY] at e3
          clear hY
          by_cases e4 : N = 0
          · have z2 : ((N : Int) != 0) = false := by rw [e4]; rfl
            have hr := HT.out
            rw [if_neg (fun h => h.elim (fun h => absurd h.1 e1) (fun h => h.elim (fun h => h.2.elim (fun h => by rw [HMP.out] at h; cases h) (fun h => h e3)) (fun h => h.1 e4))), if_neg e1, if_pos e4] at hr
            rw [hr, show errP (some (markB (layAt b (P + 8) N) c)) = .nilIface from rfl, Option.getD_some]
            clear hr
            have l1 : (layAt b (P + 8) N).length = b.length := layAt_length _ _ _ (by omega)
            have HL := Lib.hid l1
            clear l1
            go_enter Try.func89, Try.ntmps89
            go_wp2_with fail
            have kc := KF.out
            with_reducible refine kc.mono ?_
            clear kc
            rintro e w3 ⟨rfl, t3⟩
            have T3 := Lib.hid t3
            clear t3
            go_wp2_with fail
            have kc := ls_word T3.out hil ((O : Int) + 16) (O + 16) (by omega) (by omega)
            rw [HPE.out] at kc
            with_reducible refine kc.mono ?_
            clear kc
            rintro e w' ⟨rfl, rfl⟩
            go_wp2_with fail
            have kc := ls_word T3.out hil ((O : Int) + 8) (O + 8) (by omega) (by omega)
            rw [HNE.out] at kc
            with_reducible refine kc.mono ?_
            clear kc
            rintro e w' ⟨rfl, rfl⟩
            go_wp2_with fail
            have kc := ls_member T3.out hil P P rfl hP c hc
            rw [HMP.out] at kc
            with_reducible refine kc.mono ?_
            clear kc
            rintro e w4 ⟨rfl, t4⟩
            have T4 := Lib.hid t4
            clear t4
            go_wp2_with fail
            have kc := ls_word T4.out hil ((P : Int) + 8) (P + 8) (by omega) (by omega)
            rw [HQP.out] at kc
            with_reducible refine kc.mono ?_
            clear kc
            rintro e w' ⟨rfl, rfl⟩
            go_wp2_with fail
            have kc := ls_set T4.out hil ((P : Int) + 8) (P + 8) (by omega) (by omega) 0 N (by omega) hN
            with_reducible refine kc.mono ?_
            clear kc
            rintro e w6 ⟨rfl, t6⟩
            have T6 := Lib.hid t6
            clear t6
            go_wp2_with fail
            have kc := ls_mark T6.out hil c hc (by rw [HL.out]; omega)
            with_reducible refine kc.mono ?_
            clear kc
            rintro e w8 ⟨rfl, t8⟩
            have T8 := Lib.hid t8
            clear t8
            go_wp2
            go_ret
            exact ⟨rfl, T8.out⟩
          · have z2 : ((N : Int) != 0) = true := by rw [bne_iff_ne]; omega
            cases hm2 : memberB b N c with
            | false =>
              have HMN := Lib.hid hm2
              clear hm2
              have hr : takeI b (O : Int) = none := by rw [HT.out, if_pos (.inr (.inr ⟨e4, .inl HMN.out⟩))]
              rw [hr]
              clear hr
              go_enter Try.func89, Try.ntmps89
              go_wp2_with fail
              have kc := KF.out
              with_reducible refine kc.mono ?_
              clear kc
              rintro e w3 ⟨rfl, t3⟩
              have T3 := Lib.hid t3
              clear t3
              go_wp2_with fail
              have kc := ls_word T3.out hil ((O : Int) + 16) (O + 16) (by omega) (by omega)
              rw [HPE.out] at kc
              with_reducible refine kc.mono ?_
              clear kc
              rintro e w' ⟨rfl, rfl⟩
              go_wp2_with fail
              have kc := ls_word T3.out hil ((O : Int) + 8) (O + 8) (by omega) (by omega)
              rw [HNE.out] at kc
              with_reducible refine kc.mono ?_
              clear kc
              rintro e w' ⟨rfl, rfl⟩
              go_wp2_with fail
              have kc := ls_member T3.out hil P P rfl hP c hc
              rw [HMP.out] at kc
              with_reducible refine kc.mono ?_
              clear kc
              rintro e w4 ⟨rfl, t4⟩
              have T4 := Lib.hid t4
              clear t4
              go_wp2_with fail
              have kc := ls_word T4.out hil ((P : Int) + 8) (P + 8) (by omega) (by omega)
              rw [HQP.out] at kc
              with_reducible refine kc.mono ?_
              clear kc
              rintro e w' ⟨rfl, rfl⟩
              go_wp2_with fail
              have kc := ls_member T4.out hil N N rfl hN c hc
              rw [HMN.out] at kc
              with_reducible refine kc.mono ?_
              clear kc
              rintro e w5 ⟨rfl, t5⟩
              have T5 := Lib.hid t5
              clear t5
              go_wp2
              go_ret
              exact ⟨rfl, T5.out⟩
            | true =>
              obtain ⟨n1, n2, n3⟩ := memberB_at hm2
              have HMN := Lib.hid hm2
              clear hm2 n1 n2
              have un : IntKind.i64.wrap (N : Int) = N := IntWalk.i64_in _ (by omega)
              have mn : IntKind.i64.wrap ((N : Int) + 16) = (N : Int) + 16 := IntWalk.i64_in _ (by omega)
              obtain ⟨R, hR⟩ : ∃ R, numAt b (N + 16) = R := ⟨_, rfl⟩
              have HQN := Lib.hid hR
              by_cases e5 : R = O
              · have z3 : ((R : Int) != (O : Int)) = false := by rw [e5]; simp
                rw [← hR] at e5
                clear hR
                have hr := HT.out
                rw [if_neg (fun h => h.elim (fun h => absurd h.1 e1) (fun h => h.elim (fun h => h.2.elim (fun h => by rw [HMP.out] at h; cases h) (fun h => h e3)) (fun h => h.2.elim (fun h => by rw [HMN.out] at h; cases h) (fun h => h e5)))), if_neg e1, if_neg e4] at hr
                rw [hr, show errP (some (markB (layAt (layAt b (P + 8) N) (N + 16) P) c)) = .nilIface from rfl, Option.getD_some]
                clear hr
                have l1 : (layAt b (P + 8) N).length = b.length := layAt_length _ _ _ (by omega)
                have l2 : (layAt (layAt b (P + 8) N) (N + 16) P).length = b.length := by rw [layAt_length _ _ _ (by omega)]; exact l1
                have HL := Lib.hid l1
                have HL2 := Lib.hid l2
                clear l1 l2
                go_enter Try.func89, Try.ntmps89
                go_wp2_with fail
                have kc := KF.out
                with_reducible refine kc.mono ?_
                clear kc
                rintro e w3 ⟨rfl, t3⟩
                have T3 := Lib.hid t3
                clear t3
                go_wp2_with fail
                have kc := ls_word T3.out hil ((O : Int) + 16) (O + 16) (by omega) (by omega)
                rw [HPE.out] at kc
                with_reducible refine kc.mono ?_
                clear kc
                rintro e w' ⟨rfl, rfl⟩
                go_wp2_with fail
                have kc := ls_word T3.out hil ((O : Int) + 8) (O + 8) (by omega) (by omega)
                rw [HNE.out] at kc
                with_reducible refine kc.mono ?_
                clear kc
                rintro e w' ⟨rfl, rfl⟩
                go_wp2_with fail
                have kc := ls_member T3.out hil P P rfl hP c hc
                rw [HMP.out] at kc
                with_reducible refine kc.mono ?_
                clear kc
                rintro e w4 ⟨rfl, t4⟩
                have T4 := Lib.hid t4
                clear t4
                go_wp2_with fail
                have kc := ls_word T4.out hil ((P : Int) + 8) (P + 8) (by omega) (by omega)
                rw [HQP.out] at kc
                with_reducible refine kc.mono ?_
                clear kc
                rintro e w' ⟨rfl, rfl⟩
                go_wp2_with fail
                have kc := ls_member T4.out hil N N rfl hN c hc
                rw [HMN.out] at kc
                with_reducible refine kc.mono ?_
                clear kc
                rintro e w5 ⟨rfl, t5⟩
                have T5 := Lib.hid t5
                clear t5
                go_wp2_with fail
                have kc := ls_word T5.out hil ((N : Int) + 16) (N + 16) (by omega) (by omega)
                rw [HQN.out] at kc
                with_reducible refine kc.mono ?_
                clear kc
                rintro e w' ⟨rfl, rfl⟩
                go_wp2_with fail
                have kc := ls_set T5.out hil ((P : Int) + 8) (P + 8) (by omega) (by omega) N N rfl hN
                with_reducible refine kc.mono ?_
                clear kc
                rintro e w6 ⟨rfl, t6⟩
                have T6 := Lib.hid t6
                clear t6
                go_wp2_with fail
                have kc := ls_set T6.out hil ((N : Int) + 16) (N + 16) (by omega) (by rw [HL.out]; omega) P P rfl hP
                with_reducible refine kc.mono ?_
                clear kc
                rintro e w7 ⟨rfl, t7⟩
                have T7 := Lib.hid t7
                clear t7
                go_wp2_with fail
                have kc := ls_mark T7.out hil c hc (by rw [HL2.out]; omega)
                with_reducible refine kc.mono ?_
                clear kc
                rintro e w8 ⟨rfl, t8⟩
                have T8 := Lib.hid t8
                clear t8
                go_wp2
                go_ret
                exact ⟨rfl, T8.out⟩
              · have z3 : ((R : Int) != (O : Int)) = true := by rw [bne_iff_ne]; omega
                rw [← hR] at e5
                clear hR
                have hr : takeI b (O : Int) = none := by rw [HT.out, if_pos (.inr (.inr ⟨e4, .inr e5⟩))]
                rw [hr]
                clear hr
                go_enter Try.func89, Try.ntmps89
                go_wp2_with fail
                have kc := KF.out
                with_reducible refine kc.mono ?_
                clear kc
                rintro e w3 ⟨rfl, t3⟩
                have T3 := Lib.hid t3
                clear t3
                go_wp2_with fail
                have kc := ls_word T3.out hil ((O : Int) + 16) (O + 16) (by omega) (by omega)
                rw [HPE.out] at kc
                with_reducible refine kc.mono ?_
                clear kc
                rintro e w' ⟨rfl, rfl⟩
                go_wp2_with fail
                have kc := ls_word T3.out hil ((O : Int) + 8) (O + 8) (by omega) (by omega)
                rw [HNE.out] at kc
                with_reducible refine kc.mono ?_
                clear kc
                rintro e w' ⟨rfl, rfl⟩
                go_wp2_with fail
                have kc := ls_member T3.out hil P P rfl hP c hc
                rw [HMP.out] at kc
                with_reducible refine kc.mono ?_
                clear kc
                rintro e w4 ⟨rfl, t4⟩
                have T4 := Lib.hid t4
                clear t4
                go_wp2_with fail
                have kc := ls_word T4.out hil ((P : Int) + 8) (P + 8) (by omega) (by omega)
                rw [HQP.out] at kc
                with_reducible refine kc.mono ?_
                clear kc
                rintro e w' ⟨rfl, rfl⟩
                go_wp2_with fail
                have kc := ls_member T4.out hil N N rfl hN c hc
                rw [HMN.out] at kc
                with_reducible refine kc.mono ?_
                clear kc
                rintro e w5 ⟨rfl, t5⟩
                have T5 := Lib.hid t5
                clear t5
                go_wp2_with fail
                have kc := ls_word T5.out hil ((N : Int) + 16) (N + 16) (by omega) (by omega)
                rw [HQN.out] at kc
                with_reducible refine kc.mono ?_
                clear kc
                rintro e w' ⟨rfl, rfl⟩
                go_wp2
                go_ret
                exact ⟨rfl, T5.out⟩
        · have z5 : ((Y : Int) != (O : Int)) = true := by rw [bne_iff_ne]; omega
          rw [← hY] at e3
          clear hY
          have hr : takeI b (O : Int) = none := by rw [HT.out, if_pos (.inr (.inl ⟨e1, .inr e3⟩))]
          rw [hr]
          clear hr
          go_enter Try.func89, Try.ntmps89
          go_wp2_with fail
          have kc := KF.out
          with_reducible refine kc.mono ?_
          clear kc
          rintro e w3 ⟨rfl, t3⟩
          have T3 := Lib.hid t3
          clear t3
          go_wp2_with fail
          have kc := ls_word T3.out hil ((O : Int) + 16) (O + 16) (by omega) (by omega)
          rw [HPE.out] at kc
          with_reducible refine kc.mono ?_
          clear kc
          rintro e w' ⟨rfl, rfl⟩
          go_wp2_with fail
          have kc := ls_word T3.out hil ((O : Int) + 8) (O + 8) (by omega) (by omega)
          rw [HNE.out] at kc
          with_reducible refine kc.mono ?_
          clear kc
          rintro e w' ⟨rfl, rfl⟩
          go_wp2_with fail
          have kc := ls_member T3.out hil P P rfl hP c hc
          rw [HMP.out] at kc
          with_reducible refine kc.mono ?_
          clear kc
          rintro e w4 ⟨rfl, t4⟩
          have T4 := Lib.hid t4
          clear t4
          go_wp2_with fail
          have kc := ls_word T4.out hil ((P : Int) + 8) (P + 8) (by omega) (by omega)
          rw [HQP.out] at kc
          with_reducible refine kc.mono ?_
          clear kc
          rintro e w' ⟨rfl, rfl⟩
          go_wp2
          go_ret
          exact ⟨rfl, T4.out⟩
end
end Go.Proofs.Ytjijniillehfoaa
