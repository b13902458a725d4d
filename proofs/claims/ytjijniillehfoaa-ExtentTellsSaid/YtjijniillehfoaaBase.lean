/- Words of this work on memory: a world kept outside some blocks; a slice of bytes that reads as a list. -/
import Derived.WalkKit
import Derived.Laws.AppendOwnNone
import Derived.OrdersHeld
namespace Go.Own
open Go Go.RowKit

/-- Outside the blocks F, below the old end of the heap, w' is as w was. -/
structure Keep (F : Nat → Prop) (w w' : World) : Prop where
  os : w'.os = w.os
  tape : w'.tape = w.tape
  output : w'.output = w.output
  size : w.heap.size ≤ w'.heap.size
  block : ∀ k, k < w.heap.size → ¬ F k → w'.heap[k]? = w.heap[k]?

theorem Keep.refl (F : Nat → Prop) (w : World) : Keep F w w := ⟨rfl, rfl, rfl, Nat.le_refl _, fun _ _ _ => rfl⟩
theorem Keep.trans {F : Nat → Prop} {a b c : World} (h : Keep F a b) (k : Keep F b c) : Keep F a c :=
  ⟨k.os.trans h.os, k.tape.trans h.tape, k.output.trans h.output, Nat.le_trans h.size k.size,
   fun i hi hf => (k.block i (Nat.lt_of_lt_of_le hi h.size) hf).trans (h.block i hi hf)⟩
theorem Keep.mono {F G : Nat → Prop} {w w' : World} (h : Keep F w w') (hg : ∀ k, k < w.heap.size → F k → G k) : Keep G w w' :=
  ⟨h.os, h.tape, h.output, h.size, fun k hk hn => h.block k hk fun hf => hn (hg k hk hf)⟩
theorem Keep.below {F : Nat → Prop} {B : Nat} {w w' : World} (h : Keep F w w') (hB : B ≤ w.heap.size) (hf : ∀ k, k < B → ¬ F k) : Below B w w' :=
  ⟨h.os, h.tape, h.output, h.size, fun k hk => h.block k (Nat.lt_of_lt_of_le hk hB) (hf k hk)⟩
theorem Keep.of_below {F : Nat → Prop} {w w' : World} (h : Below w.heap.size w w') : Keep F w w' :=
  ⟨h.os, h.tape, h.output, h.size, fun k hk _ => h.block k hk⟩

theorem cell_of_block {w w' : World} {p : Addr} (h : w'.heap[p.block]? = w.heap[p.block]?) : w'.cell? p = w.cell? p := World.cell?_of_block (w := w) h

/-- The slice value 'slice a n c', of elements of z cells each, reads as these cells. -/
structure Sl (w : World) (a : Option Addr) (n c z : Nat) (vs : List Value) : Prop where
  len : vs.length = n * z
  cap : n ≤ c
  room : c ≤ 9223372036854775807
  nilcap : a = none → c = 0
  cells : ∀ i v, vs[i]? = some v → ∃ b off, a = some ⟨b, off, none⟩ ∧ w.cell? ⟨b, off + i, none⟩ = some v

/-- The block that a slice lies in is none of these. -/
def off (F : Nat → Prop) (a : Option Addr) : Prop := ∀ p, a = some p → ¬ F p.block

theorem Sl.keep {F : Nat → Prop} {w w' : World} {a : Option Addr} {n c z : Nat} {l : List Value} (h : Sl w a n c z l) (k : Keep F w w') (hf : off F a) : Sl w' a n c z l where
  len := h.len
  cap := h.cap
  room := h.room
  nilcap := h.nilcap
  cells := fun i v hi => by
    obtain ⟨b, o, e, hc⟩ := h.cells i v hi
    refine ⟨b, o, e, ?_⟩
    rw [cell_of_block (w := w) (p := ⟨b, o + i, none⟩) (k.block b (World.block_lt_of_cell? w _ hc) (hf _ e))]; exact hc
theorem Sl.below {w w' : World} {a : Option Addr} {n c z : Nat} {l : List Value} (h : Sl w a n c z l) (k : Below w.heap.size w w') : Sl w' a n c z l :=
  h.keep (F := fun _ => False) (.of_below k) fun _ _ h => h
theorem Sl.nil (w : World) (z : Nat) : Sl w none 0 0 z [] := ⟨by simp, Nat.le_refl _, by decide, fun _ => rfl, fun i v h => by simp at h⟩
/-- A slice of a slice: 'b[i:j]', where it isn't cut at the capacity. -/
theorem Sl.cut {w : World} {b o n c z : Nat} {l : List Value} (h : Sl w (some ⟨b, o, none⟩) n c z l) (i j : Nat) (hij : i ≤ j) (hj : j ≤ n) :
    Sl w (some ⟨b, o + i * z, none⟩) (j - i) (c - i) z ((l.take (j * z)).drop (i * z)) where
  len := by
    have h1 : j * z ≤ n * z := Nat.mul_le_mul_right _ hj
    rw [List.length_drop, List.length_take, h.len, Nat.min_eq_left h1, Nat.sub_mul]
  cap := by have := h.cap; omega
  room := by have := h.room; omega
  nilcap := fun h => by cases h
  cells := fun k v hk => by
    rw [List.getElem?_drop, List.getElem?_take] at hk
    split at hk
    · obtain ⟨b', o', e, hc⟩ := h.cells _ v hk
      cases e
      exact ⟨b, o + i * z, rfl, by rw [Nat.add_assoc]; exact hc⟩
    · cases hk
theorem Sl.recap {w : World} {p : Addr} {n c z : Nat} {l : List Value} (h : Sl w (.some p) n c z l) (c' : Nat) (h1 : n ≤ c') (h2 : c' ≤ 9223372036854775807) : Sl w (.some p) n c' z l :=
  ⟨h.len, h1, h2, fun h => (by cases h), h.cells⟩
theorem Sl.some {w : World} {a : Option Addr} {n c z : Nat} {l : List Value} (h : Sl w a n c z l) (hn : 0 < n) (hz : 0 < z) : ∃ b o, a = .some ⟨b, o, none⟩ ∧ b < w.heap.size := by
  have hl := h.len
  have hp : 0 < l.length := by rw [hl]; exact Nat.mul_pos hn hz
  obtain ⟨b, o, e, hc⟩ := h.cells 0 l[0] (by simp [hp])
  exact ⟨b, o, e, World.block_lt_of_cell? w _ hc⟩
theorem Sl.of_row {w : World} {b : Nat} {e : TypeId} {l r : List Value} {n c z : Nat} (h : w.heap[b]? = .some (.cells (l ++ r).toArray e (0, 0))) (hn : l.length = n * z) (hc : n ≤ c) (hr : c ≤ 9223372036854775807) : Sl w (.some ⟨b, 0, none⟩) n c z l where
  len := hn
  cap := hc
  room := hr
  nilcap := fun h => by cases h
  cells := fun i v hi => ⟨b, 0, rfl, by
    have hlt : i < l.length := (List.getElem?_eq_some_iff.1 hi).1
    simp only [World.cell?, h, Nat.zero_add]
    simp [List.getElem?_append_left hlt, hi]⟩
theorem Sl.of_owned {w : World} {base z : Nat} {e : TypeId} {v : Value} {n : Nat} {l : List Value} (h : w.ownsRow base e z v n l) :
    ∃ a c, v = .slice a n c ∧ (∀ p, a = .some p → base ≤ p.block) ∧ Sl w a n c z l := by
  obtain ⟨h1, h⟩ := h
  rcases h with ⟨rfl, h0⟩ | ⟨g, cap, cur, rfl, hb, hg, hnc, hcm, hcs, ht⟩
  · subst h0
    have : l = [] := List.eq_nil_of_length_eq_zero (by simpa using h1)
    subst this
    exact ⟨none, 0, rfl, fun _ h => (by cases h), Sl.nil w z⟩
  · refine ⟨.some ⟨g, 0, none⟩, cap, rfl, fun p hp => by cases hp; exact hb, Sl.of_row (e := e) (r := cur.toList.drop (n * z)) ?_ h1 hnc hcm⟩
    rw [← ht, List.take_append_drop]; simpa using hg

theorem Sl.lit (w : World) (e : TypeId) (l : List Value) (n z : Nat) (h : l.length = n * z) (hn : n ≤ 9223372036854775807) : Sl (w.alloc (.cells l.toArray e (0, 0))) (.some ⟨w.heap.size, 0, none⟩) n n z l :=
  Sl.of_row (e := e) (r := []) (by rw [List.append_nil]; exact heap_alloc_new w _) h (Nat.le_refl _) hn
theorem Sl.litf (w : World) (e : TypeId) (fz : Nat × Nat) (l : List Value) (n z : Nat) (h : l.length = n * z) (hn : n ≤ 9223372036854775807) : Sl (w.alloc (.cells l.toArray e fz)) (.some ⟨w.heap.size, 0, none⟩) n n z l where
  len := h
  cap := Nat.le_refl _
  room := hn
  nilcap := fun h => by cases h
  cells := fun i v hi => ⟨w.heap.size, 0, rfl, by
    have : (w.alloc (.cells l.toArray e fz)).heap[w.heap.size]? = .some (.cells l.toArray e fz) := heap_alloc_new w _
    simp only [World.cell?, this, Nat.zero_add]
    simp [hi]⟩
theorem ownsRow_map {w : World} {base : Nat} {e : TypeId} {z : Nat} {v : Value} {n n' : Nat} {l l' : List Value} (h : w.ownsRow base e z v n l) (hn : n = n') (hl : l = l') : w.ownsRow base e z v n' l' := by subst hn; subst hl; exact h
theorem below_own {B : Nat} {a w w' : World} {e : TypeId} {z : Nat} {v : Value} {n : Nat} {l : List Value} (h : Below B a w) (hB : B ≤ w.heap.size) (ho : w.ownsRow B e z v n l) (hg : w.grownBy w' v.ownBlock) : Below B a w' :=
  h.grown hg hB fun k hk => (ho.lt k hk).1

/-- A byte, as a cell. -/
def bv (x : UInt8) : Value := .int .u8 (x.toNat : Nat)
/-- The slice value 'slice a n c' reads as the bytes l. -/
def Bs (w : World) (a : Option Addr) (n c : Nat) (l : List UInt8) : Prop := Sl w a n c 1 (l.map bv)
theorem bv_nat (q : Nat) : bv (UInt8.ofNat q) = .int .u8 ((q : Int) % 256) := by simp [bv]
theorem Bs.len {w : World} {a : Option Addr} {n c : Nat} {l : List UInt8} (h : Bs w a n c l) : n = l.length := by simpa using (Sl.len h).symm
theorem Bs.at {w : World} {a : Option Addr} {n c : Nat} {l : List UInt8} (h : Bs w a n c l) (i : Nat) (hi : i < l.length) :
    ∃ b off, a = some ⟨b, off, none⟩ ∧ w.cell? ⟨b, off + i, none⟩ = some (.int .u8 (l[i].toNat : Nat)) := Sl.cells h i _ (by simp [bv, hi])
theorem Bs.cut {w : World} {b o n c : Nat} {l : List UInt8} (h : Bs w (some ⟨b, o, none⟩) n c l) (i j : Nat) (hij : i ≤ j) (hj : j ≤ n) :
    Bs w (some ⟨b, o + i, none⟩) (j - i) (c - i) ((l.take j).drop i) := by
  have := Sl.cut h i j hij hj
  simpa [Bs, List.map_drop, List.map_take] using this
theorem Bs.below {w w' : World} {a : Option Addr} {n c : Nat} {l : List UInt8} (h : Bs w a n c l) (k : Below w.heap.size w w') : Bs w' a n c l := Sl.below h k
theorem Bs.keep {F : Nat → Prop} {w w' : World} {a : Option Addr} {n c : Nat} {l : List UInt8} (h : Bs w a n c l) (k : Keep F w w') (hf : off F a) : Bs w' a n c l := Sl.keep h k hf
theorem Bs.nil (w : World) : Bs w none 0 0 [] := Sl.nil w 1

/-- Block b is a row of these cells, none frozen. -/
def Row (w : World) (b : Nat) (e : TypeId) (l : List Value) : Prop := w.heap[b]? = some (.cells l.toArray e (0, 0))
theorem Row.lt {w : World} {b : Nat} {e : TypeId} {l : List Value} (h : Row w b e l) : b < w.heap.size := (Array.getElem?_eq_some_iff.1 h).1
theorem Row.cell {w : World} {b : Nat} {e : TypeId} {l : List Value} (h : Row w b e l) (i : Nat) : w.cell? ⟨b, i, none⟩ = l[i]? := by
  simp only [World.cell?]; rw [show w.heap[b]? = _ from h]; simp
theorem Row.frozen {w : World} {b : Nat} {e : TypeId} {l : List Value} (h : Row w b e l) (i : Nat) : w.frozen? ⟨b, i, none⟩ = false := by
  simp only [World.frozen?]; rw [show w.heap[b]? = _ from h]; simp
theorem Row.set {w : World} {b : Nat} {e : TypeId} {l : List Value} (h : Row w b e l) (i : Nat) (v : Value) : Row (w.setCell ⟨b, i, none⟩ v) b e (l.set i v) := by
  have h' : w.heap[b]? = _ := h
  unfold Row World.setCell
  simp only [Array.getElem?_modify, h']
  simp
theorem Row.keep {F : Nat → Prop} {w w' : World} {b : Nat} {e : TypeId} {l : List Value} (h : Row w b e l) (k : Keep F w w') (hb : ¬ F b) : Row w' b e l :=
  (k.block b h.lt hb).trans h
theorem Row.below {w w' : World} {b : Nat} {e : TypeId} {l : List Value} (h : Row w b e l) (k : Below w.heap.size w w') : Row w' b e l := (k.block b h.lt).trans h
theorem Row.alloc {w : World} {b : Nat} {e : TypeId} {l : List Value} (h : Row w b e l) (o : Obj) : Row (w.alloc o) b e l := h.below ((Below.refl _ _).alloc (Nat.le_refl _) o)
theorem Row.made (w : World) (e : TypeId) (l : List Value) : Row (w.alloc (.cells l.toArray e (0, 0))) w.heap.size e l := heap_alloc_new w _
theorem Keep.setCell {F : Nat → Prop} {a w : World} (h : Keep F a w) {p : Addr} (hp : F p.block ∨ a.heap.size ≤ p.block) (u : Value) : Keep F a (w.setCell p u) :=
  ⟨h.os, h.tape, h.output, by simpa [World.setCell] using h.size, fun k hk hf => (Below.heap_setCell _ _ _ _ (by rintro rfl; rcases hp with hp | hp; exact hf hp; omega)).trans (h.block k hk hf)⟩
theorem Keep.drew {F : Nat → Prop} {a w : World} (h : Keep F a w) : Keep F a w.drew := ⟨h.os, h.tape, h.output, h.size, h.block⟩
theorem Keep.alloc {F : Nat → Prop} {a w : World} (h : Keep F a w) (o : Obj) : Keep F a (w.alloc o) :=
  ⟨h.os, h.tape, h.output, by have := h.size; simp; omega, fun k hk hf => (Below.heap_alloc _ _ _ (by have := h.size; omega)).trans (h.block k hk hf)⟩

theorem Bs.of_row {w : World} {b : Nat} {e : TypeId} {l : List UInt8} {r : List Value} {n c : Nat} (h : Row w b e (l.map bv ++ r)) (hn : n = l.length) (hc : n ≤ c) (hr : c ≤ 9223372036854775807) : Bs w (some ⟨b, 0, none⟩) n c l :=
  Sl.of_row (e := e) h (by simp [hn]) hc hr

/-- A function tells new bytes: a slice in new memory. -/
def NewBs (w : World) (l : List UInt8) (e : Ending) (w' : World) : Prop :=
  ∃ a n c, e = .returned (.slice a n c) ∧ Bs w' a n c l ∧ (∀ p, a = some p → w.heap.size ≤ p.block) ∧ Below w.heap.size w w'

/-- What the program's table tells of an element type. -/
def Info (P : Program) (e : TypeId) (z : Value) (size bytes : Nat) : Prop := (P.info? e).map (fun i => (i.zero, i.size, i.bytes)) = some (some z, size, bytes)
theorem Info.parts {P : Program} {e : TypeId} {z : Value} {s b : Nat} (h : Info P e z s b) : ∃ i, P.info? e = some i ∧ i.zero = some z ∧ i.size = s ∧ i.bytes = b := by
  cases hi : P.info? e with
  | none => simp [Info, hi] at h
  | some i => simp [Info, hi] at h; exact ⟨i, rfl, h⟩
theorem madeCells_one (z : Value) (n : Nat) : madeCells #[z] n = (List.replicate n z).toArray := by
  apply Array.ext
  · simp [madeCells]
  · intro i h1 h2
    simp [madeCells, Nat.mod_one]
/-- 'make([]T, n)', T of one cell. -/
theorem run_mk1 {P : Program} (t e : TypeId) (z : Value) (bytes : Nat) (ht : P.underlying t = some (.slice e)) (hi : Info P e z 1 bytes) (hz : z.cells = #[z]) (m : Int) (n : Nat) (hm : m = n)
    (hb : bytes * n ≤ 281474976710656) (h63 : n ≤ 9223372036854775807) (w : World) :
    (Instr.makeSlice t (.int .i64 m) (.int .i64 m)).run P w = .ok (.slice (some ⟨w.heap.size, 0, none⟩) n n) (w.alloc (.cells (List.replicate n z).toArray e (0, 0))) := by
  obtain ⟨i, hi, iz, is, ib⟩ := hi.parts
  subst hm
  have hb' : (i.bytes : Int) * (n : Int) ≤ 281474976710656 := by rw [ib, ← Int.natCast_mul]; omega
  have := run_make (P := P) w t e i z ht hi iz .i64 .i64 n n (by omega) (Int.le_refl _) hb' (by omega)
  rw [this, hz, is]; simp [madeCells_one]
theorem one1 {v : Value} (h : v.oneCell' = true) : ∀ u ∈ [v], u.oneCell' = true := by intro u hu; cases hu; exact h; contradiction
theorem le_alloc {B : Nat} {w : World} (h : B ≤ w.heap.size) (o : Obj) : B ≤ (w.alloc o).heap.size := by simp; omega
/-- A literal slice without elements. -/
theorem own_empty (w : World) (e : TypeId) (z : Nat) : (w.alloc (.cells #[] e (0, 0))).ownsRow w.heap.size e z (.slice (some ⟨w.heap.size, 0, none⟩) 0 0) 0 [] :=
  World.ownsRow_made w #[] 0 (Nat.le_refl _) (by decide) (by simp)
theorem own_below {w w' : World} {base : Nat} {e : TypeId} {z : Nat} {v : Value} {n : Nat} {l : List Value} (h : w.ownsRow base e z v n l) (k : Below w.heap.size w w') : w'.ownsRow base e z v n l :=
  h.kept (row := none) ⟨k.os, k.tape, k.output, k.size, fun i hi _ => k.block i hi⟩ (by cases v.ownBlock <;> simp)
theorem grown_below {B : Nat} {w w' : World} {e : TypeId} {z : Nat} {v : Value} {n : Nat} {l : List Value} (ho : w.ownsRow B e z v n l) (hB : B ≤ w.heap.size) (hg : w.grownBy w' v.ownBlock) : Below B w w' := below_own (Below.refl _ _) hB ho hg
/-- What is wanted is done. -/
theorem at_wanted {P : Program} {ops : Array Oper} {rest : List Oper} {o : Oper} {a : Act} {w : World} {Q : Exit → Act → World → Prop} (hw : Region.wanted o (yielded ops a.tmps) = true)
    (h : ∀ K : Act → World → Prop, (∀ a w, wpList P ops Q rest a w → K a w) → o.wp P a w K Q) : wpList P ops Q (o :: rest) a w := by
  unfold wpList
  rw [if_pos hw]
  exact .inl (h _ fun _ _ h => h)
/-- 'append(s, x...)', s the call's own, x nil or not: at an operation. -/
theorem app_wp {P : Program} {w : World} {o : Oper} {a : Act} {K : Act → World → Prop} {Q : Exit → Act → World → Prop} (s x : Operand) (t : TypeId)
    (ho : o.op = .call { callee := .builtin .append, args := #[s, x], argTypes := #[t, t] })
    (base : Nat) (e : TypeId) (z : Value) (size bytes : Nat) (ht : P.underlying t = some (.slice e)) (hi : Info P e z size bytes) (hzs : z.cells.size = size) (hsz : 0 < size)
    (v : Value) (n : Nat) (xs : List Value) (hs : a.eval s = v) (hown : w.ownsRow base e size v n xs)
    (ad : Option Addr) (m c : Nat) (news : List Value) (hx : a.eval x = .slice ad m c) (hb : Sl w ad m c size news) (h1 : ∀ u ∈ news, u.oneCell' = true)
    (hbytes : (n + m) * bytes ≤ 140737488355328) (h63 : n + m ≤ 9223372036854775807) (hbase : base ≤ w.heap.size)
    (h : ∀ v' w', w'.ownsRow base e size v' (n + m) (xs ++ news) → Below base w w' → K (a.put o.dst v') w') : o.wp P a w K Q := by
  obtain ⟨i, hi, hz, his, hib⟩ := hi.parts
  by_cases hm : m = 0
  · subst hm
    have hnil : news = [] := List.eq_nil_of_length_eq_zero (by simpa using hb.len)
    subst hnil
    cases ad with
    | none =>
      have hc := hb.nilcap rfl
      subst hc
      have hrun := run_append_owned_none (P := P) (w := w) base t o.type e i size ht hi v n xs hown
      unfold Oper.wp
      simp [execOp, ho, resolve, invoke, builtin, hs, hx, hrun, Result.andThen]
      exact h _ _ (by simpa using hown) (Below.refl _ _)
    | some ad => exact wp_append_own w s x t ho base e i z size bytes ht hi hz his hib hzs hsz v n xs hs hown ad 0 c [] hx (by simp) (fun j u h => by simp at h) h1 h63 hbytes hbase fun v' w' h2 h3 _ => h v' w' h2 (grown_below hown hbase h3)
  · obtain ⟨b, o', rfl, _⟩ := hb.some (by omega) hsz
    refine wp_append_own w s x t ho base e i z size bytes ht hi hz his hib hzs hsz v n xs hs hown ⟨b, o', none⟩ m c news hx hb.len (fun j u h => ?_) h1 h63 hbytes hbase fun v' w' h2 h3 _ => h v' w' h2 (grown_below hown hbase h3)
    obtain ⟨b2, o2, e2, hc⟩ := hb.cells j u h
    cases e2
    have hadd : (⟨b, o', none⟩ : Addr).add j = ⟨b, o' + j, none⟩ := by unfold Addr.add; split <;> simp_all
    rw [hadd]; exact hc
/-- 'append(s, x...)', s the call's own, x nil or not: in a walk. -/
theorem app_sl {P : Program} {w : World} {ops : Array Oper} {rest : List Oper} {o : Oper} {a : Act} {Q : Exit → Act → World → Prop} (hgd : Region.wanted o (yielded ops a.tmps) = true) (s x : Operand) (t : TypeId)
    (ho : o.op = .call { callee := .builtin .append, args := #[s, x], argTypes := #[t, t] })
    (base : Nat) (e : TypeId) (z : Value) (size bytes : Nat) (ht : P.underlying t = some (.slice e)) (hi : Info P e z size bytes) (hzs : z.cells.size = size) (hsz : 0 < size)
    (v : Value) (n : Nat) (xs : List Value) (hs : a.eval s = v) (hown : w.ownsRow base e size v n xs)
    (ad : Option Addr) (m c : Nat) (news : List Value) (hx : a.eval x = .slice ad m c) (hb : Sl w ad m c size news) (h1 : ∀ u ∈ news, u.oneCell' = true)
    (hbytes : (n + m) * bytes ≤ 140737488355328) (h63 : n + m ≤ 9223372036854775807) (hbase : base ≤ w.heap.size)
    (h : ∀ v' w', w'.ownsRow base e size v' (n + m) (xs ++ news) → Below base w w' → wpList P ops Q rest (a.put o.dst v') w') : wpList P ops Q (o :: rest) a w :=
  at_wanted hgd fun _ hK => app_wp s x t ho base e z size bytes ht hi hzs hsz v n xs hs hown ad m c news hx hb h1 hbytes h63 hbase fun v' w' h2 h3 => hK _ _ (h v' w' h2 h3)
theorem bv_one (l : List UInt8) : ∀ u ∈ l.map bv, u.oneCell' = true := by
  intro u hu; obtain ⟨x, _, rfl⟩ := List.mem_map.1 hu; rfl

/-- 'string(b)'. -/
theorem run_str {P : Program} {src dst e : TypeId} (hs : P.underlying src = some (.slice e)) (hd : P.underlying dst = some .string) (he : P.underlying e = some (.int .u8)) {w : World} {a : Option Addr} {n c : Nat} {l : List UInt8}
    (h : Bs w a n c l) : (Go.convert src dst (.slice a n c)).run P w = .ok (.string ⟨l.toArray⟩) w := by
  obtain rfl := h.len
  have hstr : strOfNums (l.map fun x : UInt8 => (x.toNat : Int)) = ⟨l.toArray⟩ := by
    simp [strOfNums, List.map_map, Function.comp_def]
  cases a with
  | none =>
    have hl : l = [] := List.eq_nil_of_length_eq_zero (by have := h.cap; have := h.nilcap rfl; omega)
    subst hl
    exact run_convert_bytes_nil (P := P) (w := w) src e hs he 0 c dst hd
  | some p =>
    by_cases hl : l = []
    · subst hl
      rw [run_convert_bytes_string w src dst e _ _ _ hs he hd]
      exact run_bytesToString w p 0 c [] (by simp [loadCells, loadCellsFrom])
    · obtain ⟨b, o, hp, _⟩ := Sl.some h (List.length_pos_iff.2 hl) (by decide)
      cases hp
      have := run_convert_bytes_arg (P := P) (w := w) src e hs he b o l.length c (l.map fun x : UInt8 => (x.toNat : Int)) (by simp) (fun i hi => by
        obtain ⟨b', o', e', hc⟩ := h.at i hi
        cases e'
        rw [hc]; simp [List.getD, hi]) dst hd
      rw [this, hstr]

/-! ### Whole variables of several cells -/
theorem run_alloc_row {P : Program} {t : TypeId} {i : TypeInfo} {z : Value} (hi : P.info? t = some i) (hz : i.zero = some z) (w : World) (old : Value) :
    (Instr.alloc t true old).run P w = .ok (.pointer (some ⟨w.heap.size, 0, none⟩)) (w.alloc (.cells z.cells t (0, 0))) := by
  simp [Instr.alloc, zeroValue, typeInfo, hi, hz, newVar, newRow]
/-- 'alloc T', T of several cells. -/
theorem alloc_row {P : Program} {ops : Array Oper} {rest : List Oper} {o : Oper} {a : Act} {w : World} {Q : Exit → Act → World → Prop} (hgd : o.guard = none) (t : TypeId) (ho : o.op = .alloc t)
    (z : Value) (s b : Nat) (hi : Info P t z s b) (cs : List Value) (hc : z.cells = cs.toArray)
    (h : wpList P ops Q rest (a.put o.dst (.pointer (some ⟨w.heap.size, 0, none⟩))) (w.alloc (.cells cs.toArray t (0, 0)))) : wpList P ops Q (o :: rest) a w := by
  obtain ⟨i, hi, hz, _, _⟩ := hi.parts
  refine wpList_plain hgd fun K hK => ?_
  unfold Oper.wp execOp
  simp only [ho]
  simp [run_alloc_row hi hz, hc, Result.andThen]
  exact hK _ _ h
/-- 'x = v', x a variable of several cells, v an aggregate. -/
theorem store_row {P : Program} {ops : Array Oper} {rest : List Oper} {o : Oper} {a : Act} {w : World} {Q : Exit → Act → World → Prop} (hgd : o.guard = none) (t : TypeId) (x y : Operand) (ho : o.op = .store t x y)
    (g : Nat) (hx : a.eval x = .pointer (some ⟨g, 0, none⟩)) (cs : List Value) (hy : a.eval y = .agg cs.toArray) (e : TypeId) (old : List Value) (hg : Row w g e old) (hs : (P.info? t).map (·.size) = some cs.length) (hl : old.length = cs.length)
    (h1 : ∀ u ∈ cs, u.oneCell' = true) (h : ∀ w', Row w' g e cs → Keep (· = g) w w' → wpList P ops Q rest (a.put o.dst undef) w') : wpList P ops Q (o :: rest) a w := by
  cases hi : P.info? t with
  | none => rw [hi] at hs; cases hs
  | some i =>
    rw [hi] at hs
    simp only [Option.map_some, Option.some.injEq] at hs
    refine wpList_plain hgd fun K hK => ?_
    have hst := run_storeVar_row (P := P) w g e t old.toArray cs.toArray hg (by rw [hi]; simp [hs]) (by simpa using hl) (by simpa using h1)
    unfold Oper.wp execOp
    simp only [ho, hx, hy, Instr.storeAt, Instr.sureAddr]
    simp [Sem.run_bind, Result.andThen, hst]
    refine hK _ _ (h _ ?_ ?_)
    · exact setRow_heap w g old.toArray cs.toArray e (0, 0) hg
    · exact ⟨rfl, rfl, rfl, by simp, fun k _ hk => setRow_other w g k cs.toArray hk⟩

/-- 'v = x', x a variable of several cells. -/
theorem load_row {P : Program} {ops : Array Oper} {rest : List Oper} {o : Oper} {a : Act} {w : World} {Q : Exit → Act → World → Prop} (hgd : o.guard = none) (t : TypeId) (x : Operand) (ho : o.op = .load t x)
    (g : Nat) (hx : a.eval x = .pointer (some ⟨g, 0, none⟩)) (e : TypeId) (cs : List Value) (d : TypeDesc) (hg : Row w g e cs)
    (hu : P.underlying t = some d) (hd : (match d with | .struct _ | .array _ _ => true | _ => false) = true) (hi : (P.info? t).map (·.size) = some cs.length)
    (h : wpList P ops Q rest (a.put o.dst (.agg cs.toArray)) w) : wpList P ops Q (o :: rest) a w :=
  wpList_load_row hgd t x ho g hx e cs.toArray (0, 0) d hg hu hd (by simpa using hi) h

/-! ### A region that draws its order: reads and sums are taken as soon as they may be, in whatever world that keeps what stood outside F; calls one by one. -/
theorem wpAnyH_weak {P : Program} {ops : Array Oper} {Q : Exit → Act → World → Prop} {md : Region.Mode} {S S' : World → Prop} (hS : ∀ w, S' w → S w) :
    ∀ (fuel : Nat) (listed : Array Bool) (a : Act) (w : World), wpAnyH P md ops Q S' fuel listed a w → wpAnyH P md ops Q S fuel listed a w
  | 0, _, _, _, h => h
  | fuel + 1, _, _, _, h => ⟨h.1, fun i hi => wpOp_mono (fun a' w' h' => ⟨hS _ h'.1, wpAnyH_weak hS fuel _ a' w' h'.2⟩) (h.2 i hi)⟩
/-- What Q says of a panic doesn't hang on the slots. -/
def PanicsSame (Q : Exit → Act → World → Prop) : Prop := ∀ c a a' w, a'.defers = a.defers → Q (.panic c) a' w → Q (.panic c) a w
theorem ps_then {K : Act → World → Prop} {Q : Exit → Act → World → Prop} (h : PanicsSame Q) : PanicsSame (Exit.then K Q) := fun c a a' w e hq => h c a a' w e hq
theorem ps_block {id : Nat} {Q : Exit → Act → World → Prop} (h : PanicsSame Q) : PanicsSame (Exit.inBlock id Q) := fun c a a' w e hq => h c a a' w e hq
theorem ps_body {P : Program} {fn : Func} {R : Ending → World → Prop} : PanicsSame (bodyPost P fn R) := fun _ _ _ _ e hq => ⟨e ▸ hq.1, hq.2⟩
theorem put_defers (a : Act) (d : Option Tmp) (v : Value) : (a.put d v).defers = a.defers := by cases d <;> rfl
/-- What is left of the region goes well from every world that keeps W outside F. -/
def Flow (P : Program) (ops : List Oper) (Q : Exit → Act → World → Prop) (F : Nat → Prop) (fuel : Nat) (listed : Array Bool) (a : Act) (W : World) : Prop :=
  PanicsSame Q ∧ ∀ w, Keep F W w → wpAnyH P .any ops.toArray Q (Keep F W) fuel listed a w
section
variable {P : Program} {ops : List Oper} {Q : Exit → Act → World → Prop} {F : Nat → Prop} {fuel : Nat} {listed : Array Bool} {a a' : Act} {W : World}
theorem at_of {i : Nat} {oi : Oper} (h : (ops.drop i).head? = some oi) : ops.toArray[i]? = some oi := by simpa using h
theorem flow_begin {id : Nat} {l : List Oper} (hm : P.follows .mixedOrders = true) (n : Nat) (hn : l.length = n) (hq : PanicsSame Q) (h : PanicsSame Q → Flow P l Q F n (List.replicate n false).toArray a W) : (Code.region id l.toArray true).wp P Q a W := by
  subst hn
  refine wp_region_held (S := Keep F W) hm ?_
  have := (h hq).2 W.drew ((Keep.refl F W).drew)
  simpa using this
/-- A read, a sum: taken at once. -/
theorem flow_take (i : Nat) {oi : Oper} {v : Value} (hp : PanicsSame Q) (hi : (ops.drop i).head? = some oi) (hc : (Region.noSelect ops.toArray && Region.free .any ops.toArray listed i && (Region.ready .any ops.toArray listed).contains i) = true)
    (hw : Region.wanted oi (yielded ops.toArray a.tmps) = true) (hrun : ∀ w, Keep F W w → (execOp a.eval oi).run P w = .ok (.value v) w) (ha : a.put oi.dst v = a')
    (h : Flow P ops Q F fuel (listed.setIfInBounds i true) a' W) : Flow P ops Q F (fuel + 1) listed a W := by
  subst ha
  simp only [Bool.and_eq_true] at hc
  exact ⟨hp, fun w k => wpAnyH_take (at_of hi) hc.1.1 hc.1.2 hc.2 (fun c a' w' q => hp c _ _ _ (put_defers _ _ _) q) (.inl ⟨hw, fun w' k' => hrun w' k'⟩) k (h.2 w k)⟩
/-- What isn't wanted: passed over. -/
theorem flow_skip (i : Nat) {oi : Oper} (hp : PanicsSame Q) (hi : (ops.drop i).head? = some oi) (hc : (Region.noSelect ops.toArray && Region.free .any ops.toArray listed i && (Region.ready .any ops.toArray listed).contains i) = true)
    (hw : Region.wanted oi (yielded ops.toArray a.tmps) = false) (ha : a.put oi.dst undef = a')
    (h : Flow P ops Q F fuel (listed.setIfInBounds i true) a' W) : Flow P ops Q F (fuel + 1) listed a W := by
  subst ha
  simp only [Bool.and_eq_true] at hc
  exact ⟨hp, fun w k => wpAnyH_take (at_of hi) hc.1.1 hc.1.2 hc.2 (fun c a' w' q => hp c _ _ _ (put_defers _ _ _) q) (.inr ⟨hw, rfl⟩) k (h.2 w k)⟩
/-- The one operation that may come up (a call, a new block): from whatever world. -/
theorem flow_one (i : Nat) {oi : Oper} (hp : PanicsSame Q) (hi : (ops.drop i).head? = some oi) (hr : Region.ready .any ops.toArray listed = [i]) (hw : Region.wanted oi (yielded ops.toArray a.tmps) = true)
    (h : ∀ w, Keep F W w → oi.wp P a w (fun a' w' => Keep F w w' ∧ Flow P ops Q F fuel (listed.setIfInBounds i true) a' w') Q) : Flow P ops Q F (fuel + 1) listed a W :=
  ⟨hp, fun w k => wpAnyH_all hr (by simp) fun j hj => by
    obtain rfl : j = i := by simpa using hj
    refine wpOp_mono (K := fun a' w' => Keep F w w' ∧ Flow P ops Q F fuel (listed.setIfInBounds j true) a' w') (fun a' w' h' => ⟨k.trans h'.1, wpAnyH_weak (fun x hx => (k.trans h'.1).trans hx) _ _ _ _ (h'.2.2 w' (Keep.refl F w'))⟩) ?_
    unfold wpOp
    simp only [at_of hi, hw, if_true]
    exact .inl (h w k)⟩
/-- Several that may come up. -/
theorem flow_any (rs : List Nat) (hp : PanicsSame Q) (hr : Region.ready .any ops.toArray listed = rs) (hne : rs ≠ [])
    (h : ∀ i ∈ rs, ∃ oi, (ops.drop i).head? = some oi ∧ Region.wanted oi (yielded ops.toArray a.tmps) = true ∧
      ∀ w, Keep F W w → oi.wp P a w (fun a' w' => Keep F w w' ∧ Flow P ops Q F fuel (listed.setIfInBounds i true) a' w') Q) : Flow P ops Q F (fuel + 1) listed a W :=
  ⟨hp, fun w k => wpAnyH_all hr hne fun j hj => by
    obtain ⟨oi, hi, hw, h⟩ := h j hj
    refine wpOp_mono (K := fun a' w' => Keep F w w' ∧ Flow P ops Q F fuel (listed.setIfInBounds j true) a' w') (fun a' w' h' => ⟨k.trans h'.1, wpAnyH_weak (fun x hx => (k.trans h'.1).trans hx) _ _ _ _ (h'.2.2 w' (Keep.refl F w'))⟩) ?_
    unfold wpOp
    simp only [at_of hi, hw, if_true]
    exact .inl (h w k)⟩
theorem wp_next {o : Oper} {a : Act} {w : World} {next : Act → World → Prop} (h : ∀ K : Act → World → Prop, (∀ a w, next a w → K a w) → o.wp P a w K Q) : o.wp P a w next Q := h _ fun _ _ h => h
theorem flow_put {w' : World} {d : Option Tmp} {v : Value} (ha : a.put d v = a') (h : Flow P ops Q F fuel listed a' w') : Flow P ops Q F fuel listed (a.put d v) w' := ha ▸ h
theorem flow_done (hp : PanicsSame Q) (hr : Region.ready .any ops.toArray listed = []) (h : ∀ w, Keep F W w → Q .normal a w) : Flow P ops Q F fuel listed a W :=
  ⟨hp, fun w k => wpAnyH_done hr (h w k) fuel⟩
end

theorem rI {k : IntKind} {a b : Int} (h : a = b) : Ending.returned (.int k a) = .returned (.int k b) := by rw [h]
theorem rB {a b : Bool} (h : a = b) : Ending.returned (.bool a) = .returned (.bool b) := by rw [h]
theorem rIB {k : IntKind} {a b : Int} {x y : Bool} (h : a = b) (g : x = y) : Ending.returned (.tuple #[.int k a, .bool x]) = .returned (.tuple #[.int k b, .bool y]) := by rw [h, g]
theorem rIBB {k : IntKind} {a b : Int} {x y u v : Bool} (h : a = b) (g : x = y) (f : u = v) :
    Ending.returned (.tuple #[.int k a, .bool x, .bool u]) = .returned (.tuple #[.int k b, .bool y, .bool v]) := by rw [h, g, f]
theorem vI {k : IntKind} {a b : Int} (h : a = b) : Value.int k a = .int k b := by rw [h]
theorem decT {p : Prop} [Decidable p] (h : p) : true = decide p := (decide_eq_true h).symm
theorem decF {p : Prop} [Decidable p] (h : ¬ p) : false = decide p := (decide_eq_false h).symm
end Go.Own
