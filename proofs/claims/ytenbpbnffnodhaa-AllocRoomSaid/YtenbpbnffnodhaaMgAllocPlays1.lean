/- Texts of the proof of 'AllocPlays', part 1: words on memory, contracts of functions, plain laws. No condition. -/
import Derived.WalkKit
import Derived.Laws.AppendOwnNone
import Derived.OrdersHeld
import Derived.ProofKit
import Derived.OpenShut
import Derived.Deep.Slices
import Derived.Test.YtenbpbnffnodhaaProg
import Derived.Laws.BitsAllLaws
import Derived.Laws.Wrap64
import Derived.Laws.BitsLemmas
import Derived.Lib.Hide
import Derived.WalkSpells
set_option linter.unusedSimpArgs false
set_option linter.unusedVariables false
/- Words of this work on memory: a world kept outside some blocks; a slice of bytes that reads as a list. -/
namespace Go.Own
open Go Go.RowKit

/-- Outside the blocks F, below the old end of the heap, w' is as w was. -/
structure Keep (F : Nat → Prop) (w w' : World) : Prop where
  os : w'.os = w.os
  tape : w'.tape = w.tape
  output : w'.output = w.output
  size : w.heap.size ≤ w'.heap.size
  block : ∀ k, k < w.heap.size → ¬ F k → w'.heap[k]? = w.heap[k]?

theorem Keep.refl (F : Nat → Prop) (w : World) : Keep F w w := ⟨rfl, rfl, rfl, Nat.le_refl _, fun _ _ _ => rfl⟩
theorem Keep.trans {F : Nat → Prop} {a b c : World} (h : Keep F a b) (k : Keep F b c) : Keep F a c :=
  ⟨k.os.trans h.os, k.tape.trans h.tape, k.output.trans h.output, Nat.le_trans h.size k.size,
   fun i hi hf => (k.block i (Nat.lt_of_lt_of_le hi h.size) hf).trans (h.block i hi hf)⟩
theorem Keep.mono {F G : Nat → Prop} {w w' : World} (h : Keep F w w') (hg : ∀ k, k < w.heap.size → F k → G k) : Keep G w w' :=
  ⟨h.os, h.tape, h.output, h.size, fun k hk hn => h.block k hk fun hf => hn (hg k hk hf)⟩
theorem Keep.below {F : Nat → Prop} {B : Nat} {w w' : World} (h : Keep F w w') (hB : B ≤ w.heap.size) (hf : ∀ k, k < B → ¬ F k) : Below B w w' :=
  ⟨h.os, h.tape, h.output, h.size, fun k hk => h.block k (Nat.lt_of_lt_of_le hk hB) (hf k hk)⟩
theorem Keep.of_below {F : Nat → Prop} {w w' : World} (h : Below w.heap.size w w') : Keep F w w' :=
  ⟨h.os, h.tape, h.output, h.size, fun k hk _ => h.block k hk⟩

theorem cell_of_block {w w' : World} {p : Addr} (h : w'.heap[p.block]? = w.heap[p.block]?) : w'.cell? p = w.cell? p := World.cell?_of_block (w := w) h

/-- The slice value 'slice a n c', of elements of z cells each, reads as these cells. -/
structure Sl (w : World) (a : Option Addr) (n c z : Nat) (vs : List Value) : Prop where
  len : vs.length = n * z
  cap : n ≤ c
  room : c ≤ 9223372036854775807
  nilcap : a = none → c = 0
  cells : ∀ i v, vs[i]? = some v → ∃ b off, a = some ⟨b, off, none⟩ ∧ w.cell? ⟨b, off + i, none⟩ = some v

/-- The block that a slice lies in is none of these. -/
def off (F : Nat → Prop) (a : Option Addr) : Prop := ∀ p, a = some p → ¬ F p.block

theorem Sl.keep {F : Nat → Prop} {w w' : World} {a : Option Addr} {n c z : Nat} {l : List Value} (h : Sl w a n c z l) (k : Keep F w w') (hf : off F a) : Sl w' a n c z l where
  len := h.len
  cap := h.cap
  room := h.room
  nilcap := h.nilcap
  cells := fun i v hi => by
    obtain ⟨b, o, e, hc⟩ := h.cells i v hi
    refine ⟨b, o, e, ?_⟩
    rw [cell_of_block (w := w) (p := ⟨b, o + i, none⟩) (k.block b (World.block_lt_of_cell? w _ hc) (hf _ e))]; exact hc
theorem Sl.below {w w' : World} {a : Option Addr} {n c z : Nat} {l : List Value} (h : Sl w a n c z l) (k : Below w.heap.size w w') : Sl w' a n c z l :=
  h.keep (F := fun _ => False) (.of_below k) fun _ _ h => h
theorem Sl.nil (w : World) (z : Nat) : Sl w none 0 0 z [] := ⟨by simp, Nat.le_refl _, by decide, fun _ => rfl, fun i v h => by simp at h⟩
/-- A slice of a slice: 'b[i:j]', where it isn't cut at the capacity. -/
theorem Sl.cut {w : World} {b o n c z : Nat} {l : List Value} (h : Sl w (some ⟨b, o, none⟩) n c z l) (i j : Nat) (hij : i ≤ j) (hj : j ≤ n) :
    Sl w (some ⟨b, o + i * z, none⟩) (j - i) (c - i) z ((l.take (j * z)).drop (i * z)) where
  len := by
    have h1 : j * z ≤ n * z := Nat.mul_le_mul_right _ hj
    rw [List.length_drop, List.length_take, h.len, Nat.min_eq_left h1, Nat.sub_mul]
  cap := by have := h.cap; omega
  room := by have := h.room; omega
  nilcap := fun h => by cases h
  cells := fun k v hk => by
    rw [List.getElem?_drop, List.getElem?_take] at hk
    split at hk
    · obtain ⟨b', o', e, hc⟩ := h.cells _ v hk
      cases e
      exact ⟨b, o + i * z, rfl, by rw [Nat.add_assoc]; exact hc⟩
    · cases hk
theorem Sl.some {w : World} {a : Option Addr} {n c z : Nat} {l : List Value} (h : Sl w a n c z l) (hn : 0 < n) (hz : 0 < z) : ∃ b o, a = .some ⟨b, o, none⟩ ∧ b < w.heap.size := by
  have hl := h.len
  have hp : 0 < l.length := by rw [hl]; exact Nat.mul_pos hn hz
  obtain ⟨b, o, e, hc⟩ := h.cells 0 l[0] (by simp [hp])
  exact ⟨b, o, e, World.block_lt_of_cell? w _ hc⟩
theorem Sl.of_row {w : World} {b : Nat} {e : TypeId} {l r : List Value} {n c z : Nat} (h : w.heap[b]? = .some (.cells (l ++ r).toArray e (0, 0))) (hn : l.length = n * z) (hc : n ≤ c) (hr : c ≤ 9223372036854775807) : Sl w (.some ⟨b, 0, none⟩) n c z l where
  len := hn
  cap := hc
  room := hr
  nilcap := fun h => by cases h
  cells := fun i v hi => ⟨b, 0, rfl, by
    have hlt : i < l.length := (List.getElem?_eq_some_iff.1 hi).1
    simp only [World.cell?, h, Nat.zero_add]
    simp [List.getElem?_append_left hlt, hi]⟩
theorem Sl.of_owned {w : World} {base z : Nat} {e : TypeId} {v : Value} {n : Nat} {l : List Value} (h : w.ownsRow base e z v n l) :
    ∃ a c, v = .slice a n c ∧ (∀ p, a = .some p → base ≤ p.block) ∧ Sl w a n c z l := by
  obtain ⟨h1, h⟩ := h
  rcases h with ⟨rfl, h0⟩ | ⟨g, cap, cur, rfl, hb, hg, hnc, hcm, hcs, ht⟩
  · subst h0
    have : l = [] := List.eq_nil_of_length_eq_zero (by simpa using h1)
    subst this
    exact ⟨none, 0, rfl, fun _ h => (by cases h), Sl.nil w z⟩
  · refine ⟨.some ⟨g, 0, none⟩, cap, rfl, fun p hp => by cases hp; exact hb, Sl.of_row (e := e) (r := cur.toList.drop (n * z)) ?_ h1 hnc hcm⟩
    rw [← ht, List.take_append_drop]; simpa using hg

theorem Sl.lit (w : World) (e : TypeId) (l : List Value) (n z : Nat) (h : l.length = n * z) (hn : n ≤ 9223372036854775807) : Sl (w.alloc (.cells l.toArray e (0, 0))) (.some ⟨w.heap.size, 0, none⟩) n n z l :=
  Sl.of_row (e := e) (r := []) (by rw [List.append_nil]; exact heap_alloc_new w _) h (Nat.le_refl _) hn
theorem ownsRow_map {w : World} {base : Nat} {e : TypeId} {z : Nat} {v : Value} {n n' : Nat} {l l' : List Value} (h : w.ownsRow base e z v n l) (hn : n = n') (hl : l = l') : w.ownsRow base e z v n' l' := by subst hn; subst hl; exact h
/-- A byte, as a cell. -/
def bv (x : UInt8) : Value := .int .u8 (x.toNat : Nat)
/-- The slice value 'slice a n c' reads as the bytes l. -/
def Bs (w : World) (a : Option Addr) (n c : Nat) (l : List UInt8) : Prop := Sl w a n c 1 (l.map bv)
theorem bv_nat (q : Nat) : bv (UInt8.ofNat q) = .int .u8 ((q : Int) % 256) := by simp [bv]
theorem Bs.len {w : World} {a : Option Addr} {n c : Nat} {l : List UInt8} (h : Bs w a n c l) : n = l.length := by simpa using (Sl.len h).symm
theorem Bs.at {w : World} {a : Option Addr} {n c : Nat} {l : List UInt8} (h : Bs w a n c l) (i : Nat) (hi : i < l.length) :
    ∃ b off, a = some ⟨b, off, none⟩ ∧ w.cell? ⟨b, off + i, none⟩ = some (.int .u8 (l[i].toNat : Nat)) := Sl.cells h i _ (by simp [bv, hi])
theorem Bs.cut {w : World} {b o n c : Nat} {l : List UInt8} (h : Bs w (some ⟨b, o, none⟩) n c l) (i j : Nat) (hij : i ≤ j) (hj : j ≤ n) :
    Bs w (some ⟨b, o + i, none⟩) (j - i) (c - i) ((l.take j).drop i) := by
  have := Sl.cut h i j hij hj
  simpa [Bs, List.map_drop, List.map_take] using this
theorem Bs.below {w w' : World} {a : Option Addr} {n c : Nat} {l : List UInt8} (h : Bs w a n c l) (k : Below w.heap.size w w') : Bs w' a n c l := Sl.below h k
theorem Bs.keep {F : Nat → Prop} {w w' : World} {a : Option Addr} {n c : Nat} {l : List UInt8} (h : Bs w a n c l) (k : Keep F w w') (hf : off F a) : Bs w' a n c l := Sl.keep h k hf
theorem Bs.nil (w : World) : Bs w none 0 0 [] := Sl.nil w 1

/-- Block b is a row of these cells, none frozen. -/
def Row (w : World) (b : Nat) (e : TypeId) (l : List Value) : Prop := w.heap[b]? = some (.cells l.toArray e (0, 0))
theorem Row.lt {w : World} {b : Nat} {e : TypeId} {l : List Value} (h : Row w b e l) : b < w.heap.size := (Array.getElem?_eq_some_iff.1 h).1
theorem Row.cell {w : World} {b : Nat} {e : TypeId} {l : List Value} (h : Row w b e l) (i : Nat) : w.cell? ⟨b, i, none⟩ = l[i]? := by
  simp only [World.cell?]; rw [show w.heap[b]? = _ from h]; simp
theorem Row.frozen {w : World} {b : Nat} {e : TypeId} {l : List Value} (h : Row w b e l) (i : Nat) : w.frozen? ⟨b, i, none⟩ = false := by
  simp only [World.frozen?]; rw [show w.heap[b]? = _ from h]; simp
theorem Row.set {w : World} {b : Nat} {e : TypeId} {l : List Value} (h : Row w b e l) (i : Nat) (v : Value) : Row (w.setCell ⟨b, i, none⟩ v) b e (l.set i v) := by
  have h' : w.heap[b]? = _ := h
  unfold Row World.setCell
  simp only [Array.getElem?_modify, h']
  simp
theorem Row.keep {F : Nat → Prop} {w w' : World} {b : Nat} {e : TypeId} {l : List Value} (h : Row w b e l) (k : Keep F w w') (hb : ¬ F b) : Row w' b e l :=
  (k.block b h.lt hb).trans h
theorem Row.below {w w' : World} {b : Nat} {e : TypeId} {l : List Value} (h : Row w b e l) (k : Below w.heap.size w w') : Row w' b e l := (k.block b h.lt).trans h
theorem Row.alloc {w : World} {b : Nat} {e : TypeId} {l : List Value} (h : Row w b e l) (o : Obj) : Row (w.alloc o) b e l := h.below ((Below.refl _ _).alloc (Nat.le_refl _) o)
theorem Row.made (w : World) (e : TypeId) (l : List Value) : Row (w.alloc (.cells l.toArray e (0, 0))) w.heap.size e l := heap_alloc_new w _
theorem Keep.setCell {F : Nat → Prop} {a w : World} (h : Keep F a w) {p : Addr} (hp : F p.block ∨ a.heap.size ≤ p.block) (u : Value) : Keep F a (w.setCell p u) :=
  ⟨h.os, h.tape, h.output, by simpa [World.setCell] using h.size, fun k hk hf => (Below.heap_setCell _ _ _ _ (by rintro rfl; rcases hp with hp | hp; exact hf hp; omega)).trans (h.block k hk hf)⟩
theorem Keep.drew {F : Nat → Prop} {a w : World} (h : Keep F a w) : Keep F a w.drew := ⟨h.os, h.tape, h.output, h.size, h.block⟩
theorem Keep.alloc {F : Nat → Prop} {a w : World} (h : Keep F a w) (o : Obj) : Keep F a (w.alloc o) :=
  ⟨h.os, h.tape, h.output, by have := h.size; simp; omega, fun k hk hf => (Below.heap_alloc _ _ _ (by have := h.size; omega)).trans (h.block k hk hf)⟩

theorem Bs.of_row {w : World} {b : Nat} {e : TypeId} {l : List UInt8} {r : List Value} {n c : Nat} (h : Row w b e (l.map bv ++ r)) (hn : n = l.length) (hc : n ≤ c) (hr : c ≤ 9223372036854775807) : Bs w (some ⟨b, 0, none⟩) n c l :=
  Sl.of_row (e := e) h (by simp [hn]) hc hr

/-- A function tells new bytes: a slice in new memory. -/
def NewBs (w : World) (l : List UInt8) (e : Ending) (w' : World) : Prop :=
  ∃ a n c, e = .returned (.slice a n c) ∧ Bs w' a n c l ∧ (∀ p, a = some p → w.heap.size ≤ p.block) ∧ Below w.heap.size w w'

/-- What the program's table tells of an element type. -/
def Info (P : Program) (e : TypeId) (z : Value) (size bytes : Nat) : Prop := (P.info? e).map (fun i => (i.zero, i.size, i.bytes)) = some (some z, size, bytes)
theorem Info.parts {P : Program} {e : TypeId} {z : Value} {s b : Nat} (h : Info P e z s b) : ∃ i, P.info? e = some i ∧ i.zero = some z ∧ i.size = s ∧ i.bytes = b := by
  cases hi : P.info? e with
  | none => simp [Info, hi] at h
  | some i => simp [Info, hi] at h; exact ⟨i, rfl, h⟩
theorem madeCells_one (z : Value) (n : Nat) : madeCells #[z] n = (List.replicate n z).toArray := by
  apply Array.ext
  · simp [madeCells]
  · intro i h1 h2
    simp [madeCells, Nat.mod_one]
/-- 'make([]T, n)', T of one cell. -/
theorem run_mk1 {P : Program} (t e : TypeId) (z : Value) (bytes : Nat) (ht : P.underlying t = some (.slice e)) (hi : Info P e z 1 bytes) (hz : z.cells = #[z]) (m : Int) (n : Nat) (hm : m = n)
    (hb : bytes * n ≤ 281474976710656) (h63 : n ≤ 9223372036854775807) (w : World) :
    (Instr.makeSlice t (.int .i64 m) (.int .i64 m)).run P w = .ok (.slice (some ⟨w.heap.size, 0, none⟩) n n) (w.alloc (.cells (List.replicate n z).toArray e (0, 0))) := by
  obtain ⟨i, hi, iz, is, ib⟩ := hi.parts
  subst hm
  have hb' : (i.bytes : Int) * (n : Int) ≤ 281474976710656 := by rw [ib, ← Int.natCast_mul]; omega
  have := run_make (P := P) w t e i z ht hi iz .i64 .i64 n n (by omega) (Int.le_refl _) hb' (by omega)
  rw [this, hz, is]; simp [madeCells_one]
theorem one1 {v : Value} (h : v.oneCell' = true) : ∀ u ∈ [v], u.oneCell' = true := by intro u hu; cases hu; exact h; contradiction
/-- A literal slice without elements. -/
theorem own_empty (w : World) (e : TypeId) (z : Nat) : (w.alloc (.cells #[] e (0, 0))).ownsRow w.heap.size e z (.slice (some ⟨w.heap.size, 0, none⟩) 0 0) 0 [] :=
  World.ownsRow_made w #[] 0 (Nat.le_refl _) (by decide) (by simp)
/-- What is wanted is done. -/
theorem at_wanted {P : Program} {ops : Array Oper} {rest : List Oper} {o : Oper} {a : Act} {w : World} {Q : Exit → Act → World → Prop} (hw : Region.wanted o (yielded ops a.tmps) = true)
    (h : ∀ K : Act → World → Prop, (∀ a w, wpList P ops Q rest a w → K a w) → o.wp P a w K Q) : wpList P ops Q (o :: rest) a w := by
  unfold wpList
  rw [if_pos hw]
  exact .inl (h _ fun _ _ h => h)
theorem bv_one (l : List UInt8) : ∀ u ∈ l.map bv, u.oneCell' = true := by
  intro u hu; obtain ⟨x, _, rfl⟩ := List.mem_map.1 hu; rfl

/-! ### Whole variables of several cells -/
theorem run_alloc_row {P : Program} {t : TypeId} {i : TypeInfo} {z : Value} (hi : P.info? t = some i) (hz : i.zero = some z) (w : World) (old : Value) :
    (Instr.alloc t true old).run P w = .ok (.pointer (some ⟨w.heap.size, 0, none⟩)) (w.alloc (.cells z.cells t (0, 0))) := by
  simp [Instr.alloc, zeroValue, typeInfo, hi, hz, newVar, newRow]
/-- 'alloc T', T of several cells. -/
theorem alloc_row {P : Program} {ops : Array Oper} {rest : List Oper} {o : Oper} {a : Act} {w : World} {Q : Exit → Act → World → Prop} (hgd : o.guard = none) (t : TypeId) (ho : o.op = .alloc t)
    (z : Value) (s b : Nat) (hi : Info P t z s b) (cs : List Value) (hc : z.cells = cs.toArray)
    (h : wpList P ops Q rest (a.put o.dst (.pointer (some ⟨w.heap.size, 0, none⟩))) (w.alloc (.cells cs.toArray t (0, 0)))) : wpList P ops Q (o :: rest) a w := by
  obtain ⟨i, hi, hz, _, _⟩ := hi.parts
  refine wpList_plain hgd fun K hK => ?_
  unfold Oper.wp execOp
  simp only [ho]
  simp [run_alloc_row hi hz, hc, Result.andThen]
  exact hK _ _ h
/-- 'x = v', x a variable of several cells, v an aggregate. -/
theorem store_row {P : Program} {ops : Array Oper} {rest : List Oper} {o : Oper} {a : Act} {w : World} {Q : Exit → Act → World → Prop} (hgd : o.guard = none) (t : TypeId) (x y : Operand) (ho : o.op = .store t x y)
    (g : Nat) (hx : a.eval x = .pointer (some ⟨g, 0, none⟩)) (cs : List Value) (hy : a.eval y = .agg cs.toArray) (e : TypeId) (old : List Value) (hg : Row w g e old) (hs : (P.info? t).map (·.size) = some cs.length) (hl : old.length = cs.length)
    (h1 : ∀ u ∈ cs, u.oneCell' = true) (h : ∀ w', Row w' g e cs → Keep (· = g) w w' → wpList P ops Q rest (a.put o.dst undef) w') : wpList P ops Q (o :: rest) a w := by
  cases hi : P.info? t with
  | none => rw [hi] at hs; cases hs
  | some i =>
    rw [hi] at hs
    simp only [Option.map_some, Option.some.injEq] at hs
    refine wpList_plain hgd fun K hK => ?_
    have hst := run_storeVar_row (P := P) w g e t old.toArray cs.toArray hg (by rw [hi]; simp [hs]) (by simpa using hl) (by simpa using h1)
    unfold Oper.wp execOp
    simp only [ho, hx, hy, Instr.storeAt, Instr.sureAddr]
    simp [Sem.run_bind, Result.andThen, hst]
    refine hK _ _ (h _ ?_ ?_)
    · exact setRow_heap w g old.toArray cs.toArray e (0, 0) hg
    · exact ⟨rfl, rfl, rfl, by simp, fun k _ hk => setRow_other w g k cs.toArray hk⟩

/-- 'v = x', x a variable of several cells. -/
theorem load_row {P : Program} {ops : Array Oper} {rest : List Oper} {o : Oper} {a : Act} {w : World} {Q : Exit → Act → World → Prop} (hgd : o.guard = none) (t : TypeId) (x : Operand) (ho : o.op = .load t x)
    (g : Nat) (hx : a.eval x = .pointer (some ⟨g, 0, none⟩)) (e : TypeId) (cs : List Value) (d : TypeDesc) (hg : Row w g e cs)
    (hu : P.underlying t = some d) (hd : (match d with | .struct _ | .array _ _ => true | _ => false) = true) (hi : (P.info? t).map (·.size) = some cs.length)
    (h : wpList P ops Q rest (a.put o.dst (.agg cs.toArray)) w) : wpList P ops Q (o :: rest) a w :=
  wpList_load_row hgd t x ho g hx e cs.toArray (0, 0) d hg hu hd (by simpa using hi) h

/-! ### A region that draws its order: reads and sums are taken as soon as they may be, in whatever world that keeps what stood outside F; calls one by one. -/
theorem wpAnyH_weak {P : Program} {ops : Array Oper} {Q : Exit → Act → World → Prop} {md : Region.Mode} {S S' : World → Prop} (hS : ∀ w, S' w → S w) :
    ∀ (fuel : Nat) (listed : Array Bool) (a : Act) (w : World), wpAnyH P md ops Q S' fuel listed a w → wpAnyH P md ops Q S fuel listed a w
  | 0, _, _, _, h => h
  | fuel + 1, _, _, _, h => ⟨h.1, fun i hi => wpOp_mono (fun a' w' h' => ⟨hS _ h'.1, wpAnyH_weak hS fuel _ a' w' h'.2⟩) (h.2 i hi)⟩
/-- What Q says of a panic doesn't hang on the slots. -/
def PanicsSame (Q : Exit → Act → World → Prop) : Prop := ∀ c a a' w, a'.defers = a.defers → Q (.panic c) a' w → Q (.panic c) a w
theorem ps_then {K : Act → World → Prop} {Q : Exit → Act → World → Prop} (h : PanicsSame Q) : PanicsSame (Exit.then K Q) := fun c a a' w e hq => h c a a' w e hq
theorem ps_block {id : Nat} {Q : Exit → Act → World → Prop} (h : PanicsSame Q) : PanicsSame (Exit.inBlock id Q) := fun c a a' w e hq => h c a a' w e hq
theorem ps_body {P : Program} {fn : Func} {R : Ending → World → Prop} : PanicsSame (bodyPost P fn R) := fun _ _ _ _ e hq => ⟨e ▸ hq.1, hq.2⟩
theorem put_defers (a : Act) (d : Option Tmp) (v : Value) : (a.put d v).defers = a.defers := by cases d <;> rfl
section
variable {P : Program} {ops : List Oper} {Q : Exit → Act → World → Prop} {F : Nat → Prop} {fuel : Nat} {listed : Array Bool} {a a' : Act} {W : World}
theorem at_of {i : Nat} {oi : Oper} (h : (ops.drop i).head? = some oi) : ops.toArray[i]? = some oi := by simpa using h
theorem wp_next {o : Oper} {a : Act} {w : World} {next : Act → World → Prop} (h : ∀ K : Act → World → Prop, (∀ a w, next a w → K a w) → o.wp P a w K Q) : o.wp P a w next Q := h _ fun _ _ h => h
end

theorem rI {k : IntKind} {a b : Int} (h : a = b) : Ending.returned (.int k a) = .returned (.int k b) := by rw [h]
theorem rB {a b : Bool} (h : a = b) : Ending.returned (.bool a) = .returned (.bool b) := by rw [h]
theorem rIB {k : IntKind} {a b : Int} {x y : Bool} (h : a = b) (g : x = y) : Ending.returned (.tuple #[.int k a, .bool x]) = .returned (.tuple #[.int k b, .bool y]) := by rw [h, g]
theorem vI {k : IntKind} {a b : Int} (h : a = b) : Value.int k a = .int k b := by rw [h]
theorem decT {p : Prop} [Decidable p] (h : p) : true = decide p := (decide_eq_true h).symm
theorem decF {p : Prop} [Decidable p] (h : ¬ p) : false = decide p := (decide_eq_false h).symm
end Go.Own

/- What comes in, opened by its shape: numbers, truth values, slices of these, structs of these, to any depth. -/
namespace Go.Own
open Go Go.RowKit Go.ChangeShapes Go.WideShapes
/-- A shape; a struct is its fields, one behind the other. -/
inductive Sh where
  | int (k : IntKind)
  | bool
  | sl (s : Sh)
  | nil
  | cons (s r : Sh)
def Sh.width : Sh → Nat
  | .int _ => 1
  | .bool => 1
  | .sl _ => 1
  | .nil => 0
  | .cons s r => s.width + r.width
/-- These cells read as the shape. -/
def Rd (w : World) : Sh → List Value → Prop
  | .int k, cs => ∃ x, cs = [.int k x] ∧ (Lit.int k x).wf = true
  | .bool, cs => ∃ b, cs = [.bool b]
  | .sl s, cs => ∃ (a : Option Addr) (n c : Nat) (rows : List (List Value)), cs = [.slice a n c] ∧ rows.length = n ∧ (∀ r ∈ rows, r.length = s.width ∧ Rd w s r) ∧ Sl w a n c s.width rows.flatten
  | .nil, cs => cs = []
  | .cons s r, cs => ∃ x y, cs = x ++ y ∧ x.length = s.width ∧ Rd w s x ∧ Rd w r y
theorem flatten_at {z : Nat} {v : Value} : ∀ (rows : List (List Value)) (i : Nat), (∀ r ∈ rows, r.length = z) → rows.flatten[i]? = some v →
    ∃ k j r, i = k * z + j ∧ j < z ∧ rows[k]? = some r ∧ r[j]? = some v
  | [], i, _, h => by simp at h
  | r :: rows, i, hr, h => by
    have hz := hr r (List.mem_cons_self ..)
    rw [List.flatten_cons] at h
    by_cases hi : i < z
    · rw [List.getElem?_append_left (by omega)] at h
      exact ⟨0, i, r, by omega, hi, rfl, h⟩
    · rw [List.getElem?_append_right (by omega), hz] at h
      obtain ⟨k, j, r', e, hj, h1, h2⟩ := flatten_at rows (i - z) (fun r h => hr r (List.mem_cons_of_mem _ h)) h
      exact ⟨k + 1, j, r', by rw [Nat.succ_mul]; omega, hj, by simpa using h1, h2⟩
theorem flatten_len {z : Nat} : ∀ (rows : List (List Value)), (∀ r ∈ rows, r.length = z) → rows.flatten.length = rows.length * z
  | [], _ => by simp
  | r :: rows, hr => by
    rw [List.flatten_cons, List.length_append, flatten_len rows (fun r h => hr r (List.mem_cons_of_mem _ h)), hr r (List.mem_cons_self ..), List.length_cons, Nat.succ_mul]; omega
/-- What reads as a type's datum reads as the shape. -/
def Opens (P : Program) (t : TypeId) (s : Sh) : Prop := ∀ (H : Type) (enc : TypeId × Value → H) (w : World) (fuel : Nat) (cs : List Value) (x : DataW H × List MemPlace),
  DataW.trod enc P w 0 (fun _ => true) true fuel t cs = some x → Rd w s cs ∧ cs.length = s.width
def OpensF (P : Program) (fs : List Field) (o : Nat) (s : Sh) : Prop := ∀ (H : Type) (enc : TypeId × Value → H) (w : World) (fuel : Nat) (cs : List Value),
  (∀ f ∈ fs, ∃ x, DataW.trod enc P w 0 (fun _ => true) true fuel f.type ((cs.drop f.offset).take (P.cellsOf f.type)) = some x) → cs.length = o + s.width → Rd w s (cs.drop o)
theorem opens_int {P : Program} {t : TypeId} {k : IntKind} (ht : P.underlying t = some (.int k)) : Opens P t (.int k) := by
  intro H enc w fuel cs x h
  obtain ⟨n, rfl, _, hn⟩ := DataW.trod_int ht h
  exact ⟨⟨n, rfl, hn⟩, rfl⟩
theorem opens_bool {P : Program} {t : TypeId} (ht : P.underlying t = some .bool) : Opens P t .bool := by
  intro H enc w fuel cs x h
  obtain ⟨b, rfl, _⟩ := DataW.trod_bool ht h
  exact ⟨⟨b, rfl⟩, rfl⟩
theorem spot_none {w : World} {a : Addr} {v : Value} (h : w.cell? a = some v) : a.spot = none := by
  obtain ⟨b, o, sp⟩ := a
  cases sp with
  | none => rfl
  | some s => exfalso; revert h; simp only [World.cell?]; split <;> simp
theorem add_none (b o q : Nat) : (⟨b, o, none⟩ : Addr).add q = ⟨b, o + q, none⟩ := by unfold Addr.add; split <;> simp_all
theorem opens_sl {P : Program} {t e : TypeId} {s : Sh} (ht : P.underlying t = some (.slice e)) (hc : P.cellsOf e = s.width) (he : Opens P e s) : Opens P t (.sl s) := by
  intro H enc w fuel cs x h
  rcases Deep.open_slice ht h with ⟨rfl, _⟩ | ⟨a, len, cap, m, n, D, Pl, rfl, _, hl, hm, hmm, _, hi⟩
  · exact ⟨⟨none, 0, 0, [], rfl, rfl, (fun r h => by cases h), Sl.nil w _⟩, rfl⟩
  · obtain rfl : m = cap := by simpa using hmm
    rw [hc] at hi
    obtain ⟨f, hf⟩ := Deep.choose_lt (n := m) (p := fun i cs' => w.cells? 0 (a.add (i * s.width)) s.width = some cs' ∧ DataW.trod enc P w 0 (fun _ => true) true n e cs' = some (D i, Pl i)) hi
    have hrow : ∀ r ∈ (List.range len).map f, r.length = s.width ∧ Rd w s r := by
      intro r hr
      obtain ⟨i, hi', rfl⟩ := List.mem_map.1 hr
      have hi' := List.mem_range.1 hi'
      obtain ⟨h1, h2⟩ := he H enc w n (f i) _ (hf i (by omega)).2
      exact ⟨h2, h1⟩
    refine ⟨⟨some a, len, m, (List.range len).map f, rfl, by simp, hrow, ?_⟩, rfl⟩
    refine ⟨by rw [flatten_len _ fun r hr => (hrow r hr).1]; simp, hl, by unfold maxLen at hm; omega, (fun h => by cases h), fun i v hv => ?_⟩
    obtain ⟨k, j, r, rfl, hj, h1, h2⟩ := flatten_at _ i (fun r hr => (hrow r hr).1) hv
    have hk : k < len := by
      have := (List.getElem?_eq_some_iff.1 h1).1
      simpa using this
    obtain rfl : r = f k := by
      rw [List.getElem?_map, List.getElem?_range hk] at h1
      simpa using h1.symm
    obtain ⟨_, hlen, hat⟩ := World.cells?_some (hf k (by omega)).1
    have hcell := hat j hj
    rw [Deep.add_add, h2] at hcell
    obtain ⟨_, _, hat0⟩ := World.cells?_some (hf 0 (by omega)).1
    have h00 := spot_none (v := (f 0)[0]'(by have := (hrow (f 0) (List.mem_map.2 ⟨0, List.mem_range.2 (by omega), rfl⟩)).1; omega)) (by
      have := hat0 0 (by omega)
      rw [Deep.add_add, Nat.zero_mul, List.getElem?_eq_getElem] at this
      exact this)
    obtain ⟨b, o, sp⟩ := a
    have hs : sp = none := by simpa [Addr.add] using h00
    subst hs
    refine ⟨b, o, rfl, ?_⟩
    rw [add_none] at hcell
    exact hcell
theorem opens_st {P : Program} {t : TypeId} {fs : Array Field} {s : Sh} (ht : P.underlying t = some (.struct fs)) (hc : P.cellsOf t = s.width) (hf : OpensF P fs.toList 0 s) : Opens P t s := by
  intro H enc w fuel cs x h
  obtain ⟨xs, n, _, _, hl, hxl, hg⟩ := DataW.trod_struct ht h
  have := hf H enc w n cs (fun f hm => by
    obtain ⟨i, hi, he⟩ := List.getElem_of_mem hm
    have hi' : i < fs.size := by simpa using hi
    have h1 := hg i f (by rw [Array.getElem?_eq_getElem hi']; simpa using he)
    exact ⟨xs[i]'(by omega), h1.trans (List.getElem?_eq_getElem (by omega))⟩) (by rw [hl, hc]; omega)
  exact ⟨by simpa using this, by rw [hl, hc]⟩
theorem openF_nil {P : Program} {o : Nat} : OpensF P [] o .nil := by
  intro H enc w fuel cs _ hl
  exact List.drop_eq_nil_of_le (by simp [Sh.width] at hl; omega)
theorem openF_cons {P : Program} {f : Field} {fs : List Field} {o : Nat} {s r : Sh} (ho : f.offset = o) (hc : P.cellsOf f.type = s.width) (h : Opens P f.type s) (hr : OpensF P fs (o + s.width) r) : OpensF P (f :: fs) o (.cons s r) := by
  intro H enc w fuel cs hfs hl
  simp only [Sh.width] at hl
  obtain ⟨x, hx⟩ := hfs f (List.mem_cons_self ..)
  rw [ho, hc] at hx
  obtain ⟨h1, h2⟩ := h H enc w fuel _ x hx
  have h3 := hr H enc w fuel cs (fun f' hf' => hfs f' (List.mem_cons_of_mem _ hf')) (by omega)
  refine ⟨_, _, ?_, h2, h1, h3⟩
  rw [← List.drop_drop, List.take_append_drop]
theorem exists_map {α : Type} {f : α → List Value} {p : α → Prop} : ∀ (rows : List (List Value)), (∀ r ∈ rows, ∃ d, r = f d ∧ p d) → ∃ ds : List α, rows = ds.map f ∧ ∀ d ∈ ds, p d
  | [], _ => ⟨[], rfl, fun d h => by cases h⟩
  | r :: rows, h => by
    obtain ⟨d, rfl, hd⟩ := h r (List.mem_cons_self ..)
    obtain ⟨ds, rfl, hds⟩ := exists_map rows fun r hr => h r (List.mem_cons_of_mem _ hr)
    exact ⟨d :: ds, rfl, fun x hx => by rcases List.mem_cons.1 hx with rfl | hx; exact hd; exact hds x hx⟩
theorem flatten_one {α : Type} (f : α → Value) (ds : List α) : (ds.map fun d => [f d]).flatten = ds.map f := by
  induction ds with
  | nil => rfl
  | cons d ds ih => simp [ih]
/-- A slice of bytes. -/
theorem Rd.bytes {w : World} {a : Option Addr} {n c : Nat} (h : Rd w (.sl (.int .u8)) [.slice a n c]) : ∃ l, Bs w a n c l := by
  obtain ⟨a', n', c', rows, he, hn, hr, hs⟩ := h
  cases he
  obtain ⟨ds, rfl, _⟩ := exists_map (f := fun x : UInt8 => [bv x]) (p := fun _ => True) rows fun r hr' => by
    obtain ⟨_, x, rfl, hx⟩ := hr r hr'
    simp [Lit.wf, IntKind.min, IntKind.max, IntKind.bits, IntKind.signed] at hx
    refine ⟨UInt8.ofNat x.toNat, ?_, trivial⟩
    rw [bv_nat]
    congr 2
    omega
  exact ⟨ds, by rw [flatten_one] at hs; exact hs⟩
/-- The slice value reads as these numbers. -/
def Is (w : World) (k : IntKind) (a : Option Addr) (n c : Nat) (l : List Int) : Prop := Sl w a n c 1 (l.map (.int k ·)) ∧ ∀ x ∈ l, (Lit.int k x).wf = true
theorem Rd.ints {w : World} {k : IntKind} {a : Option Addr} {n c : Nat} (h : Rd w (.sl (.int k)) [.slice a n c]) : ∃ l, Is w k a n c l := by
  obtain ⟨a', n', c', rows, he, hn, hr, hs⟩ := h
  cases he
  obtain ⟨ds, rfl, hd⟩ := exists_map (f := fun x : Int => [.int k x]) (p := fun x => (Lit.int k x).wf = true) rows fun r hr' => (hr r hr').2
  exact ⟨ds, by rw [flatten_one] at hs; exact hs, hd⟩
/-- The slice value reads as these truth values. -/
def Ts (w : World) (a : Option Addr) (n c : Nat) (l : List Bool) : Prop := Sl w a n c 1 (l.map (.bool ·))
/-- The one cell of a slice. -/
theorem Rd.slice {w : World} {s : Sh} {cs : List Value} (h : Rd w (.sl s) cs) : ∃ a n c, cs = [.slice a n c] ∧ Rd w (.sl s) [.slice a n c] := by
  obtain ⟨a, n, c, rows, rfl, h⟩ := h
  exact ⟨a, n, c, rfl, a, n, c, rows, rfl, h⟩
end Go.Own

/- What a dump's head says, word by word: so that the kernel needn't read a long head sign by sign. -/
namespace Go.Own
open Go
theorem words_step (p r : List Char) (h : p.all (fun c => !(c == Char.ofNat 32)) = true) : wordsSigns (p ++ Char.ofNat 32 :: r) = p :: wordsSigns r := by
  induction p with
  | nil => rfl
  | cons c p ih =>
    simp only [List.all_cons, Bool.and_eq_true, Bool.not_eq_true', beq_eq_false_iff_ne] at h
    have hne := h.1
    have e := ih h.2
    generalize wordsSigns r = ws at e ⊢
    rw [List.cons_append]
    unfold wordsSigns
    split
    · rename_i e; cases e
    · rename_i e; injection e with e1 e2; exact absurd e1 hne
    · rename_i e3
      injection e3 with e1 e2
      subst e1; subst e2
      rw [e]
/-- A head of three words, and more. -/
theorem head_words {s : String} {a b c r : List Nat} (hs : s = String.ofList ((a ++ 32 :: (b ++ 32 :: (c ++ 32 :: r))).map Char.ofNat))
    (ha : (a.map Char.ofNat).all (fun c => !(c == Char.ofNat 32)) = true) (hb : (b.map Char.ofNat).all (fun c => !(c == Char.ofNat 32)) = true) (hc : (c.map Char.ofNat).all (fun c => !(c == Char.ofNat 32)) = true) :
    wordsSigns s.toList = a.map Char.ofNat :: b.map Char.ofNat :: c.map Char.ofNat :: wordsSigns (r.map Char.ofNat) := by
  rw [hs, String.toList_ofList]
  simp only [List.map_append, List.map_cons]
  rw [words_step _ _ ha, words_step _ _ hb, words_step _ _ hc]
section
variable {P : Program} {a b r : List Nat}
def cutW : List Nat := [99, 117, 116]
theorem behind_words (w : List Char) (h1 : (a.map Char.ofNat == "harness".toList) = true) (h2 : isSumSigns (b.map Char.ofNat) = true) (rest : List (List Char)) : behindMainWord (a.map Char.ofNat :: b.map Char.ofNat :: w :: rest) = w :: rest := by
  show (if ((a.map Char.ofNat == "harness".toList || a.map Char.ofNat == "ownmain".toList) && isSumSigns (b.map Char.ofNat)) = true then w :: rest else _) = _
  rw [h1, h2]
  rfl
theorem make_head (hw : wordsSigns P.initOrder.toList = a.map Char.ofNat :: b.map Char.ofNat :: cutW.map Char.ofNat :: wordsSigns (r.map Char.ofNat)) (h1 : (a.map Char.ofNat == "harness".toList) = true) (h2 : isSumSigns (b.map Char.ofNat) = true) : P.make = some .cut := by
  unfold Program.make
  rw [hw, behind_words _ h1 h2]
  generalize wordsSigns (r.map Char.ofNat) = ws
  kernel_rfl
theorem strip_cut (ws : List (List Char)) : stripLifts liftWords (cutW.map Char.ofNat :: ws) = ([], cutW.map Char.ofNat :: ws) := by kernel_rfl
theorem lifts_head (hw : wordsSigns P.initOrder.toList = a.map Char.ofNat :: b.map Char.ofNat :: cutW.map Char.ofNat :: wordsSigns (r.map Char.ofNat)) (h1 : (a.map Char.ofNat == "harness".toList) = true) (h2 : isSumSigns (b.map Char.ofNat) = true) : P.liftsFinal = false := by
  unfold Program.liftsFinal Program.headLifts
  rw [hw, behind_words _ h1 h2]
  generalize wordsSigns (r.map Char.ofNat) = ws
  rw [strip_cut]
  kernel_rfl
theorem enter_head (hw : wordsSigns P.initOrder.toList = a.map Char.ofNat :: b.map Char.ofNat :: cutW.map Char.ofNat :: wordsSigns (r.map Char.ofNat)) (h1 : (a.map Char.ofNat == "harness".toList) = true) (h2 : isSumSigns (b.map Char.ofNat) = true)
    (hl : P.laysLater = false) (hb : P.bearsReflect = false) (hd : P.doorFits [] = true) : P.mayEnter = true := by
  unfold Program.mayEnter
  rw [hw, behind_words _ h1 h2]
  generalize wordsSigns (r.map Char.ofNat) = ws
  simp only
  rw [strip_cut, hl, hb]
  simp only
  rw [hd]
  have e1 : ((cutW.map Char.ofNat) == "gc".toList) = false := by kernel_rfl
  have e2 : ((cutW.map Char.ofNat) == "spec".toList) = false := by kernel_rfl
  have e3 : ((cutW.map Char.ofNat) == "carried".toList) = false := by kernel_rfl
  have e4 : ((cutW.map Char.ofNat :: ws).head? == some "cut".toList) = true := by kernel_rfl
  rw [e1, e2, e3, e4]
  rfl
end
end Go.Own

/- What the dump's head says. No condition. -/
namespace Go.Proofs.Ytenbpbnffnodhaa.Facts
open Go Go.Own
set_option maxRecDepth 100000
def headA : List Nat := [104, 97, 114, 110, 101, 115, 115]
def headB : List Nat := [101, 51, 102, 50, 98, 101, 50, 53, 50, 54, 54, 97, 54, 97, 54, 54, 52, 98, 101, 97, 98, 100, 101, 99, 56, 56, 99, 50, 51, 50, 48, 53, 49, 97, 52, 97, 100, 102, 98, 55, 53, 98, 101, 100, 56, 55, 51, 100, 98, 50, 50, 50, 102, 57, 49, 51, 52, 56, 57, 52, 99, 49, 50, 97]
def headR : List Nat := [97, 116, 32, 99, 97, 110, 116, 108, 101, 47, 99, 97, 110, 116, 108, 101, 108, 97, 119, 48, 52, 46, 68, 105, 115, 107, 83, 116, 97, 110, 100, 115, 32, 99, 97, 110, 116, 108, 101, 47, 99, 97, 110, 116, 108, 101, 108, 97, 119, 48, 52, 46, 68, 105, 115, 107, 80, 108, 97, 121, 115, 32, 99, 97, 110, 116, 108, 101, 47, 99, 97, 110, 116, 108, 101, 108, 97, 119, 48, 51, 46, 65, 114, 101, 110, 97, 80, 108, 97, 121, 115, 32, 99, 97, 110, 116, 108, 101, 47, 99, 97, 110, 116, 108, 101, 108, 97, 119, 48, 53, 46, 69, 120, 116, 101, 110, 116, 84, 101, 108, 108, 115, 32, 99, 97, 110, 116, 108, 101, 47, 99, 97, 110, 116, 108, 101, 108, 97, 119, 48, 53, 46, 69, 120, 116, 101, 110, 116, 66, 97, 99, 107, 32, 99, 97, 110, 116, 108, 101, 47, 99, 97, 110, 116, 108, 101, 108, 97, 119, 48, 55, 46, 66, 108, 111, 99, 107, 66, 97, 99, 107, 32, 99, 97, 110, 116, 108, 101, 47, 99, 97, 110, 116, 108, 101, 108, 97, 119, 48, 55, 46, 66, 108, 111, 99, 107, 84, 101, 108, 108, 115, 32, 99, 97, 110, 116, 108, 101, 47, 99, 97, 110, 116, 108, 101, 108, 97, 119, 49, 53, 46, 73, 109, 97, 103, 101, 80, 117, 116, 115, 32, 99, 97, 110, 116, 108, 101, 47, 99, 97, 110, 116, 108, 101, 108, 97, 119, 49, 53, 46, 73, 109, 97, 103, 101, 71, 101, 116, 115, 32, 99, 97, 110, 116, 108, 101, 47, 99, 97, 110, 116, 108, 101, 108, 97, 119, 49, 53, 46, 73, 109, 97, 103, 101, 66, 97, 99, 107, 32, 99, 97, 110, 116, 108, 101, 47, 99, 97, 110, 116, 108, 101, 108, 97, 119, 49, 49, 46, 67, 104, 101, 99, 107, 84, 101, 108, 108, 115, 32, 99, 97, 110, 116, 108, 101, 47, 99, 97, 110, 116, 108, 101, 108, 97, 119, 48, 57, 46, 76, 105, 115, 116, 70, 105, 114, 115, 116, 32, 99, 97, 110, 116, 108, 101, 47, 99, 97, 110, 116, 108, 101, 108, 97, 119, 49, 48, 46, 70, 105, 116, 65, 108, 108, 32, 99, 97, 110, 116, 108, 101, 47, 99, 97, 110, 116, 108, 101, 108, 97, 119, 49, 48, 46, 70, 105, 116, 84, 101, 108, 108, 115, 32, 99, 97, 110, 116, 108, 101, 47, 99, 97, 110, 116, 108, 101, 108, 97, 119, 49, 49, 46, 67, 104, 101, 99, 107, 66, 117, 105, 108, 116, 32, 99, 97, 110, 116, 108, 101, 47, 99, 97, 110, 116, 108, 101, 108, 97, 119, 49, 54, 46, 82, 101, 115, 116, 111, 114, 101, 84, 101, 108, 108, 115, 32, 99, 97, 110, 116, 108, 101, 47, 99, 97, 110, 116, 108, 101, 108, 97, 119, 49, 54, 46, 82, 101, 115, 116, 111, 114, 101, 66, 97, 99, 107, 32, 99, 97, 110, 116, 108, 101, 47, 99, 97, 110, 116, 108, 101, 108, 97, 119, 49, 50, 46, 65, 108, 108, 111, 99, 80, 108, 97, 121, 115, 32, 99, 97, 110, 116, 108, 101, 47, 99, 97, 110, 116, 108, 101, 108, 97, 119, 49, 50, 46, 65, 108, 108, 111, 99, 82, 111, 111, 109, 32, 99, 97, 110, 116, 108, 101, 47, 99, 97, 110, 116, 108, 101, 108, 97, 119, 49, 51, 46, 82, 101, 115, 105, 122, 101, 80, 108, 97, 121, 115, 32, 99, 97, 110, 116, 108, 101, 47, 99, 97, 110, 116, 108, 101, 108, 97, 119, 49, 51, 46, 82, 101, 115, 105, 122, 101, 75, 101, 101, 112, 115, 32, 99, 97, 110, 116, 108, 101, 47, 99, 97, 110, 116, 108, 101, 108, 97, 119, 49, 52, 46, 72, 101, 97, 112, 79, 102, 32, 99, 97, 110, 116, 108, 101, 47, 99, 97, 110, 116, 108, 101, 108, 97, 119, 49, 52, 46, 72, 101, 97, 112, 67, 97, 108, 108, 115]
theorem headW : wordsSigns Try.prog.initOrder.toList = headA.map Char.ofNat :: headB.map Char.ofNat :: cutW.map Char.ofNat :: wordsSigns (headR.map Char.ofNat) := head_words (by kernel_rfl) (by kernel_rfl) (by kernel_rfl) (by kernel_rfl)
theorem hA : (headA.map Char.ofNat == "harness".toList) = true := by kernel_rfl
theorem hB : isSumSigns (headB.map Char.ofNat) = true := by kernel_rfl
theorem make : Try.prog.make = some .cut := make_head headW hA hB
theorem lifts : Try.prog.liftsFinal = false := lifts_head headW hA hB
theorem laysLater : Try.prog.laysLater = false := by kernel_rfl
theorem bearsReflect : Try.prog.bearsReflect = false := by kernel_rfl
theorem doorFits : Try.prog.doorFits [] = true := by kernel_rfl
theorem mayEnter : Try.prog.mayEnter = true := enter_head headW hA hB laysLater bearsReflect doorFits
theorem laidOut : laidOutB Try.prog = true := by kernel_rfl
end Go.Proofs.Ytenbpbnffnodhaa.Facts

/- Numbers as bytes, the lowest first: plain laws, no program. -/
namespace Go.Own
/-- The number of bytes, the lowest first. -/
def num : List UInt8 → Nat
  | [] => 0
  | b :: t => b.toNat + 256 * num t
theorem num_append (a b : List UInt8) : num (a ++ b) = num a + 256 ^ a.length * num b := by
  induction a with
  | nil => simp [num]
  | cons x t ih => simp only [List.cons_append, num, ih, List.length_cons, Nat.pow_succ]; rw [Nat.mul_add, ← Nat.mul_assoc, Nat.mul_comm 256 (256 ^ t.length)]; omega
theorem num_lt (a : List UInt8) : num a < 256 ^ a.length := by
  induction a with
  | nil => simp [num]
  | cons x t ih => simp only [num, List.length_cons, Nat.pow_succ]; have := x.toNat_lt; omega
theorem take_snoc (l : List UInt8) (k : Nat) (h : k < l.length) : l.take (k + 1) = l.take k ++ [l[k]] := List.take_succ_eq_append_getElem h
theorem num_snoc (l : List UInt8) (k : Nat) (h : k < l.length) : num (l.take (k + 1)) = num (l.take k) + 256 ^ k * l[k].toNat := by
  rw [take_snoc l k h, num_append]; simp [num]; rw [Nat.min_eq_left (by omega)]
theorem two_eight (k : Nat) : (2 : Nat) ^ (8 * k) = 256 ^ k := by rw [Nat.pow_mul]

theorem wrapU64 {n : Int} (h : 0 ≤ n) (h' : n < 18446744073709551616) : IntKind.u64.wrap n = n := by
  simp [IntKind.wrap, IntKind.bits, IntKind.signed]; omega
theorem wrapI64 {n : Int} (h : -9223372036854775808 ≤ n) (h' : n ≤ 9223372036854775807) : IntKind.i64.wrap n = n := by
  rw [IntKind.wrap_i64]; omega
theorem pow_le8 (k : Nat) (h : k < 8) : 256 * 256 ^ k ≤ 18446744073709551616 := by
  have : 256 ^ (k + 1) ≤ 256 ^ 8 := Nat.pow_le_pow_right (by decide) (by omega)
  rw [Nat.pow_succ] at this; omega
/-- 'v | x << 8 k' at a number v of k bytes. -/
theorem or_shl (v : Nat) (x : UInt8) (k : Nat) (hk : k < 8) (hv : v < 256 ^ k) :
    bits .or .u64 (v : Int) (IntKind.u64.wrap (IntKind.u64.wrap (x.toNat : Int) * 2 ^ (8 * k))) = ((v + 256 ^ k * x.toNat : Nat) : Int) := by
  have hx := x.toNat_lt
  have hp := pow_le8 k hk
  have h1 : x.toNat * 256 ^ k < 18446744073709551616 := by
    have : x.toNat * 256 ^ k ≤ 255 * 256 ^ k := Nat.mul_le_mul_right _ (by omega)
    have : 0 < 256 ^ k := Nat.pos_of_ne_zero (by simp)
    omega
  have e : (IntKind.u64.wrap (x.toNat : Int) * 2 ^ (8 * k)) = ((x.toNat * 256 ^ k : Nat) : Int) := by
    rw [wrapU64 (by omega) (by omega), ← two_eight]; simp
  rw [e, wrapU64 (by omega) (by omega), u64_or_nat _ _ (by omega) h1, Nat.or_comm, nat_join (8 * k), Nat.add_comm, Nat.mul_comm]
  · rw [two_eight]; exact Nat.mul_mod_left _ _
  · rw [two_eight]; exact hv

/-- The n lowest bytes of a number. -/
def low (v : Nat) : Nat → List UInt8
  | 0 => []
  | n + 1 => UInt8.ofNat v :: low (v / 256) n
theorem low_length (v n : Nat) : (low v n).length = n := by
  induction n generalizing v with
  | zero => rfl
  | succ n ih => simp [low, ih]
theorem low_snoc (v n : Nat) : low v (n + 1) = low v n ++ [UInt8.ofNat (v / 256 ^ n)] := by
  induction n generalizing v with
  | zero => simp [low]
  | succ n ih => rw [low, ih, low, List.cons_append, Nat.div_div_eq_div_mul, Nat.pow_succ, Nat.mul_comm]
theorem num_low (v n : Nat) : num (low v n) = v % 256 ^ n := by
  induction n generalizing v with
  | zero => simp [low, num, Nat.mod_one]
  | succ n ih => simp only [low, num, ih, Nat.pow_succ]; rw [Nat.mul_comm (256 ^ n) 256, Nat.mod_mul]; simp
end Go.Own

namespace Go.Proofs.Ytenbpbnffnodhaa
open Go Go.RowKit Go.Own
set_option linter.unusedVariables false

theorem info_u8 : Info Try.prog 5 (.int .u8 0) 1 1 := by unfold Info; kernel_rfl
def getV (l : List UInt8) (at_ n : Int) : Int := if at_ + n ≤ l.length then num ((l.drop at_.toNat).take n.toNat) else 0
def getOk (l : List UInt8) (at_ n : Int) : Bool := decide (at_ + n ≤ l.length)

set_option maxHeartbeats 1000000 in
theorem word_get (w : World) (a : Option Addr) (m c : Nat) (l : List UInt8) (at_ : Int) (n : Int) (h : Bs w a m c l)
    (h0 : 0 ≤ at_) (h1 : at_ ≤ 18446744073709551615) (hn0 : 0 ≤ n) (hn : n ≤ 8) :
    Calls Try.prog 225 #[.slice a m c, .int .u64 at_, .int .u64 n] w fun e w' =>
      e = .returned (.tuple #[.int .u64 (getV l at_ n), .bool (getOk l at_ n)]) ∧ w = w' := by
  have hl := h.len; have hc := Sl.cap h; have hr := Sl.room h; have hcell := h.at; clear h
  go_enter Try.func225, Try.ntmps225
  go_wp2
  · go_ret2
    exact ⟨rIB (by rw [getV, if_neg (by omega)]) (decF (by omega)), rfl⟩
  · obtain ⟨A, rfl⟩ : ∃ A : Nat, at_ = A := ⟨at_.toNat, by omega⟩
    obtain ⟨N, rfl⟩ : ∃ N : Nat, n = N := ⟨n.toNat, by omega⟩
    go_loop [9, 25] (fun v i => ∃ k : Nat, k ≤ N ∧ i = .int .u64 k ∧ v = .int .u64 (num ((l.drop A).take k) : Nat)) (fun _ i => N - (intOf i).toNat)
    case atStart => exact ⟨0, Nat.zero_le _, rfl, rfl⟩
    case round =>
      obtain ⟨k, hk, rfl, rfl⟩ := hrel
      by_cases hlt : k < N
      · obtain ⟨b, o, rfl, hx⟩ := hcell (A + k) (by omega)
        have hlen : k < (l.drop A).length := by rw [List.length_drop]; omega
        have hs := num_snoc (l.drop A) k hlen
        have hv : num ((l.drop A).take k) < 256 ^ k := by
          have := num_lt ((l.drop A).take k); rwa [List.length_take, Nat.min_eq_left (by omega)] at this
        have he : (l.drop A)[k] = l[A + k] := by rw [List.getElem_drop]
        rw [he, ← Int.ofNat_inj, ← or_shl _ _ k (by omega) hv] at hs
        have HS := Lib.hid hs
        clear hs he hv
        go_wp2
        refine ⟨⟨k + 1, by omega, by go_num, vI HS.out.symm⟩, by simp [intOf]; omega⟩
      · obtain rfl : k = N := by omega
        go_wp2
        go_ret2
        exact ⟨rIB (by rw [getV, if_pos (by omega)]; simp) (decT (by omega)), rfl⟩
  · go_ret2
    exact ⟨rIB (by rw [getV, if_neg (by omega)]) (decF (by omega)), rfl⟩

theorem word_Get (w : World) (a : Option Addr) (m c : Nat) (l : List UInt8) (at_ : Int) (h : Bs w a m c l) (h0 : 0 ≤ at_) (h1 : at_ ≤ 18446744073709551615) :
    Calls Try.prog 174 #[.slice a m c, .int .u64 at_] w fun e w' => e = .returned (.tuple #[.int .u64 (getV l at_ 8), .bool (getOk l at_ 8)]) ∧ w = w' := by
  have H := Lib.hid h; clear h
  go_enter Try.func174, Try.ntmps174
  go_wp2_with (go_at_call 225; refine (word_get _ _ _ _ l _ _ H.out h0 h1 (by decide) (by decide)).mono ?_; rintro e w' ⟨rfl, rfl⟩)
  go_ret2
  exact ⟨rfl, rfl⟩
set_option maxHeartbeats 1000000 in
theorem word_Put (w : World) (v : Int) (h0 : 0 ≤ v) (h1 : v ≤ 18446744073709551615) :
    Calls Try.prog 164 #[.int .u64 v] w (NewBs w (low v.toNat 8)) := by
  have hmk := run_mk1 (P := Try.prog) 31 5 _ _ Try.underlying31 info_u8 rfl 8 8 rfl (by decide) (by decide)
  go_enter Try.func164, Try.ntmps164
  go_wp2
  obtain ⟨V, rfl⟩ : ∃ V : Nat, v = V := ⟨v.toNat, by omega⟩
  have h0 : Row (w.alloc (.cells (List.replicate 8 (Value.int .u8 0)).toArray 5 (0, 0))) w.heap.size 5 (List.replicate 8 (Value.int .u8 0)) := Row.made _ _ _
  have H0 := Lib.hid h0; clear h0
  go_loopw [8] (fun i wr => ∃ k : Nat, k ≤ 8 ∧ i = .int .i64 k ∧ Row wr w.heap.size 5 ((low V k).map bv ++ List.replicate (8 - k) (.int .u8 0)) ∧ Below w.heap.size w wr) (fun i _ => 8 - (intOf i).toNat)
  case atStart => exact ⟨0, by omega, rfl, H0.out, (Below.refl _ _).alloc (Nat.le_refl _) _⟩
  case round =>
    obtain ⟨k, hk, rfl, hrow, hb⟩ := hrel
    by_cases hlt : k < 8
    · have hl : ((low V k).map bv).length = k := by rw [List.length_map, low_length]
      have hc : wr.cell? ⟨w.heap.size, k, none⟩ = some (.int .u8 0) := by
        rw [hrow.cell, List.getElem?_append_right (by omega), hl, Nat.sub_self, List.getElem?_replicate, if_pos (by omega)]
      have hf := hrow.frozen k
      have hr2 := hrow.set k (bv (UInt8.ofNat (V / 256 ^ k)))
      have hb2 := hb.setCell (p := ⟨w.heap.size, k, none⟩) (Nat.le_refl _) (bv (UInt8.ofNat (V / 256 ^ k)))
      have hset : ((low V k).map bv ++ List.replicate (8 - k) (Value.int .u8 0)).set k (bv (UInt8.ofNat (V / 256 ^ k))) = (low V (k + 1)).map bv ++ List.replicate (8 - (k + 1)) (.int .u8 0) := by
        rw [List.set_append_right _ _ (by omega), hl, Nat.sub_self, show 8 - k = (8 - (k + 1)) + 1 by omega, List.replicate_succ, List.set_cons_zero, low_snoc, List.map_append]; simp
      rw [hset] at hr2
      have hv : bv (UInt8.ofNat (V / 256 ^ k)) = .int .u8 ((V : Int) / 2 ^ (8 * k) % 256) := by
        rw [bv, show ((2 : Int) ^ (8 * k)) = ((256 ^ k : Nat) : Int) from by rw [← two_eight]; simp, ← Int.natCast_ediv]; simp
      rw [hv] at hr2 hb2
      have HR := Lib.hid hr2; have HB := Lib.hid hb2
      clear hr2 hb2 hset hv hl hrow hb
      go_wp2
      exact ⟨⟨k + 1, by omega, by go_num, HR.out, HB.out⟩, by simp [intOf]; omega⟩
    · obtain rfl : k = 8 := by omega
      go_wp2
      go_ret
      exact ⟨_, _, _, rfl, Bs.of_row hrow (by rw [low_length]) (Nat.le_refl _) (by decide), fun p hp => by cases hp; exact Nat.le_refl _, hb⟩

end Go.Proofs.Ytenbpbnffnodhaa

namespace Go.Proofs.Ytenbpbnffnodhaa
open Go Go.RowKit Go.Own
set_option linter.unusedVariables false
theorem hmixed : Try.prog.follows .mixedOrders = true := by kernel_rfl

end Go.Proofs.Ytenbpbnffnodhaa

/- 'append(v, make([]T, n)...)'. The first law was printed by the kit's print.sh for this seat. -/
namespace Go.Own
open Go Go.RowKit
section
variable {P : Program}
theorem add_plain (g j : Nat) : (⟨g, 0, none⟩ : Addr).add j = ⟨g, j, none⟩ := by unfold Addr.add; split <;> simp_all
theorem setCells_far {g : Nat} : ∀ (vs : List Value) (o : Nat) {w : World} (k : Nat), k ≠ g → (w.setCells g o vs).heap[k]? = w.heap[k]?
  | [], _, _, _, _ => rfl
  | v :: r, o, w, k, hk => by
    rw [World.setCells, setCells_far r (o + 1) k hk]
    exact Below.heap_setCell w ⟨g, o, none⟩ v k hk
theorem blk_frozen {w : World} {g : Nat} {t : TypeId} {cs : Array Value} (h : w.heap[g]? = some (.cells cs t (0, 0))) (i : Nat) : w.frozen? ⟨g, i, none⟩ = false := by simp [World.frozen?, h]
theorem blk_set {w : World} {g : Nat} {t : TypeId} {cs : Array Value} (h : w.heap[g]? = some (.cells cs t (0, 0))) (i : Nat) (u : Value) : (w.setCell ⟨g, i, none⟩ u).heap[g]? = some (.cells (cs.setIfInBounds i u) t (0, 0)) := by
  simp [World.setCell, Array.getElem?_modify, h]
theorem setCells_same (g : Nat) : ∀ (vs : List Value) (o : Nat) (w : World), (w.setCells g o vs).os = w.os ∧ (w.setCells g o vs).tape = w.tape ∧ (w.setCells g o vs).output = w.output ∧ (w.setCells g o vs).heap.size = w.heap.size
  | [], _, _ => ⟨rfl, rfl, rfl, rfl⟩
  | v :: r, o, w => by
    obtain ⟨h1, h2, h3, h4⟩ := setCells_same g r (o + 1) (w.setCell ⟨g, o, none⟩ v)
    rw [World.setCells]
    exact ⟨h1, h2, h3, by rw [h4]; simp [World.setCell]⟩
theorem setCells_row {g : Nat} {e : TypeId} : ∀ (vs : List Value) (o : Nat) (w : World) (cur : Array Value), w.heap[g]? = some (.cells cur e (0, 0)) → o + vs.length ≤ cur.size →
    ∃ cur', (w.setCells g o vs).heap[g]? = some (.cells cur' e (0, 0)) ∧ cur'.size = cur.size ∧ cur'.toList = cur.toList.take o ++ vs ++ cur.toList.drop (o + vs.length)
  | [], o, w, cur, h, _ => ⟨cur, h, rfl, by simp⟩
  | v :: r, o, w, cur, h, hl => by
    have h2 := blk_set h o v
    simp only [List.length_cons] at hl
    obtain ⟨cur', h3, h4, h5⟩ := setCells_row r (o + 1) (w.setCell ⟨g, o, none⟩ v) _ h2 (by simp; omega)
    refine ⟨cur', h3, by rw [h4]; simp, ?_⟩
    rw [h5, Array.toList_setIfInBounds]
    have ho : o < cur.toList.length := by rw [Array.length_toList]; omega
    rw [List.take_set, List.drop_set_of_lt (by omega)]
    simp only [List.length_cons]
    rw [show o + 1 + r.length = o + (r.length + 1) by omega]
    congr 1
    rw [List.take_succ_eq_append_getElem ho, List.set_append_right _ _ (by rw [List.length_take]; omega)]
    have ho' : o < cur.size := by omega
    simp [Nat.min_eq_left (Nat.le_of_lt ho')]
theorem run_append_zeros (w : World) (base : Nat) (t ti ty e : TypeId) (i : TypeInfo) (z : Value) (size bytes : Nat) (ht : P.underlying t = some (.slice e)) {k : IntKind} (hti : P.underlying ti = some (.int k)) (hi : P.info? e = some i) (hz : i.zero = some z)
    (hsize : i.size = size) (hby : i.bytes = bytes) (hzs : z.cells.size = size) (hsz : 0 < size) (hb0 : 0 < bytes)
    (v : Value) (n : Nat) (xs : List Value) (hown : w.ownsRow base e size v n xs) (kx : IntKind) (m : Nat) (h1 : ∀ u ∈ (Builtin.zeroCells z.cells m).toList, u.oneCell' = true)
    (hbytes : (n + m) * bytes ≤ 140737488355328) (hbase : base ≤ w.heap.size) :
    ∃ v' w', (Builtin.append_ #[t, ti] ty #[v, .int kx m]).run P w = .ok v' w' ∧ w'.ownsRow base e size v' (n + m) (xs ++ (Builtin.zeroCells z.cells m).toList) ∧ w.grownBy w' v.ownBlock ∧
      (v'.ownBlock = v.ownBlock ∨ v'.ownBlock = some w.heap.size) := by
  subst hsize
  subst hby
  have hle : n + m ≤ 140737488355328 := Nat.le_trans (Nat.le_mul_of_pos_right _ hb0) hbytes
  have h63 : n + m ≤ maxLen := by simp only [maxLen]; omega
  have hw : IntKind.i64.wrap (m : Int) = m := by rw [IntKind.wrap_i64]; omega
  have hw0 : IntKind.i64.wrap 0 = 0 := by rw [IntKind.wrap_i64]; rfl
  have hneg : ¬ ((m : Int) < 0) := by omega
  have hmb : m * i.bytes ≤ 140737488355328 := Nat.le_trans (Nat.mul_le_mul_right _ (Nat.le_add_left m n)) hbytes
  have hbig : ¬ (281474976710656 < (m : Int) * (i.bytes : Int)) := by
    rw [← Int.natCast_mul]
    omega
  have hsn : i.size ≠ 0 := by omega
  obtain ⟨news, hnews⟩ : ∃ news, news = (Builtin.zeroCells z.cells m).toList := ⟨_, rfl⟩
  rw [← hnews] at h1 ⊢
  have hl : news.length = m * i.size := by rw [hnews, Array.length_toList, size_zeroCells, hzs]
  have hna : Builtin.zeroCells z.cells m = news.toArray := by rw [hnews]
  have hlen : (xs ++ news).length = (n + m) * i.size := by rw [List.length_append, hown.1, hl, Nat.add_mul]
  have hnil : m = 0 → news = [] := fun h => List.eq_nil_of_length_eq_zero (by rw [hl, h, Nat.zero_mul])
  have grown : ∀ (old : Nat), old < n + m → ∀ (row : Option Nat),
      (w.drew.alloc (.cells (xs.toArray ++ news.toArray ++ Builtin.zeroCells z.cells (grownCap w (n + m) old e - (n + m))) e)).ownsRow base e i.size
        (.slice (some ⟨w.heap.size, 0, none⟩) (n + m) (grownCap w (n + m) old e)) (n + m) (xs ++ news) ∧
      w.grownBy (w.drew.alloc (.cells (xs.toArray ++ news.toArray ++ Builtin.zeroCells z.cells (grownCap w (n + m) old e - (n + m))) e)) row := by
    intro old ho row
    have hge := grownCap_ge w (n + m) old e
    have hcm : grownCap w (n + m) old e ≤ maxLen := grownCap_le_maxLen w (n + m) old e h63
    refine ⟨⟨hlen, .inr ⟨w.heap.size, _, _, rfl, hbase, heap_alloc_new w.drew _, hge, hcm, ?_, ?_⟩⟩, ⟨rfl, rfl, rfl, by simp, fun k hk _ => heap_alloc_old w.drew _ hk⟩⟩
    · simp only [Array.size_append, List.size_toArray, size_zeroCells, hzs, hown.1, hl, ← Nat.add_mul]
      congr 1
      omega
    · simp only [Array.toList_append, List.append_assoc]
      rw [← List.append_assoc, ← hlen]
      exact List.take_left
  have runs : ∀ (A : Option Addr) (cap : Nat), cap < n + m → (Builtin.firstCells i.size n (.slice A n cap)).run P w.drew = .ok xs.toArray w.drew → (Builtin.append_ #[t, ti] ty #[.slice A n cap, .int kx m]).run P w =
      .ok (.slice (some ⟨w.heap.size, 0, none⟩) (n + m) (grownCap w (n + m) cap e)) (w.drew.alloc (.cells (xs.toArray ++ news.toArray ++ Builtin.zeroCells z.cells (grownCap w (n + m) cap e - (n + m))) e)) := by
    intro A cap hcap hfo
    have hn : ¬ (n + m ≤ cap) := by omega
    have h63' : ¬ (9223372036854775807 < ((n : Int) + (m : Int))) := by omega
    have hfit := growslice_fits hcap hbytes
    have h48' : ¬ (281474976710656 < Builtin.nextslicecap (n + m) cap * i.bytes) := by omega
    by_cases hm : m = 0
    · have hnl := hnil hm
      subst hm
      rw [hnl]
      simp only [Nat.add_zero] at hn h63' h48' ⊢
      have h63'' : ¬ (9223372036854775807 < (n : Int)) := by omega
      simp [Builtin.append_, run_underlying ht, run_underlying hti, sizeOf, typeInfo, zeroValue, hi, hz, asInt, asIntOf, hw0, hn, h63'', h48', Question.forced, hfo, newRow, grownCap]
    · have hmz : ¬ (m * i.size = 0) := Nat.mul_ne_zero hm hsn
      simp [Builtin.append_, run_underlying ht, run_underlying hti, sizeOf, typeInfo, zeroValue, hi, hz, asInt, asIntOf, hw, hneg, hbig, hn, h63', h48', Question.forced, hfo, newRow, grownCap, hmz, hna]
      congr 2
      apply Array.ext'
      simp [List.append_assoc]
  rcases hown.2 with ⟨rfl, rfl⟩ | ⟨g, cap, cur, rfl, hbg, hg, hnc, hcm, hcs, htake⟩
  · have hx : xs = [] := List.eq_nil_of_length_eq_zero (by simpa using hown.1)
    subst hx
    by_cases hm : m = 0
    · have hnl := hnil hm
      subst hm
      rw [hnl]
      refine ⟨.slice none 0 0, w, ?_, World.ownsRow_nil w base e i.size, ⟨rfl, rfl, rfl, Nat.le_refl _, fun _ _ _ => rfl⟩, Or.inl rfl⟩
      simp [Builtin.append_, run_underlying ht, run_underlying hti, sizeOf, typeInfo, hi, asInt, asIntOf, hw0]
    · have hgr := grown 0 (by omega) (Value.ownBlock (.slice none 0 0))
      exact ⟨_, _, runs none 0 (by omega) (by simp [Builtin.firstCells]), hgr.1, hgr.2, Or.inr rfl⟩
  · by_cases hroom : n + m ≤ cap
    · have hfit : n * i.size + news.length ≤ cur.size := by rw [hl, hcs, ← Nat.add_mul]; exact Nat.mul_le_mul_right _ hroom
      obtain ⟨cur', h3, h4, h5⟩ := setCells_row news (n * i.size) w cur hg hfit
      obtain ⟨s1, s2, s3, s4⟩ := setCells_same g news (n * i.size) w
      have hst := run_storeCells_cells (P := P) g (n * i.size) news 0 w (fun j hj => by rw [cell_of_row w g _ cur e (0, 0) hg]; simp; omega) (fun j _ => blk_frozen hg _) h1
      simp only [Nat.add_zero] at hst
      refine ⟨.slice (some ⟨g, 0, none⟩) (n + m) cap, w.setCells g (n * i.size) news, ?_, ⟨hlen, .inr ⟨g, cap, cur', rfl, hbg, h3, hroom, hcm, by rw [h4, hcs], ?_⟩⟩, ⟨s1, s2, s3, by rw [s4]; exact Nat.le_refl _, fun k _ hk => setCells_far news _ k (fun e => hk (by simp [Value.ownBlock, e]))⟩, Or.inl rfl⟩
      · by_cases hm : m = 0
        · have hnl := hnil hm
          subst hm
          rw [hnl] at hst ⊢
          simp [Builtin.append_, run_underlying ht, run_underlying hti, sizeOf, typeInfo, hi, asInt, asIntOf, hw0, hnc, add_plain, hst]
        · have hmz : ¬ (m * i.size = 0) := Nat.mul_ne_zero hm hsn
          simp [Builtin.append_, run_underlying ht, run_underlying hti, sizeOf, typeInfo, zeroValue, hi, hz, asInt, asIntOf, hw, hneg, hbig, hroom, hmz, hna, add_plain, hst]
      · rw [h5]
        have h6 : cur.toList.take (n * i.size) = xs := htake
        rw [h6, ← hlen]
        exact List.take_left
    · have holds : ∀ j u, xs[j]? = some u → w.cell? ((⟨g, 0, none⟩ : Addr).add j) = some u := hown.cells (g := g) rfl
      have hgr := grown cap (by omega) (Value.ownBlock (.slice (some ⟨g, 0, none⟩) n cap))
      exact ⟨_, _, runs (some ⟨g, 0, none⟩) cap (by omega) (run_firstCells_some (P := P) w.drew i.size n _ n cap xs hown.1 (by simpa using holds)), hgr.1, hgr.2, Or.inr rfl⟩
end
theorem zeroCells_one (z : Value) (n : Nat) : (Builtin.zeroCells #[z] n).toList = List.replicate n z := by
  have : Builtin.zeroCells #[z] n = (List.replicate n z).toArray := by
    unfold Builtin.zeroCells
    apply Array.ext
    · simp
    · intro i h1 h2; simp [Nat.mod_one]
  rw [this]
end Go.Own

/- A region that draws its order, with the world at hand known exactly: reads are taken at once, calls one by one. -/
namespace Go.Own
open Go Go.RowKit
theorem own_base {w : World} {B B' z n : Nat} {e : TypeId} {v : Value} {l : List Value} (h : w.ownsRow B e z v n l) (hb : B' ≤ B) : w.ownsRow B' e z v n l := by
  obtain ⟨h1, h2⟩ := h
  refine ⟨h1, ?_⟩
  rcases h2 with h2 | ⟨g, cap, cur, a0, a1, a2⟩
  · exact .inl h2
  · exact .inr ⟨g, cap, cur, a0, Nat.le_trans hb a1, a2⟩
theorem Row.drew {w : World} {b : Nat} {e : TypeId} {l : List Value} (h : Row w b e l) : Row w.drew b e l := h
theorem Sl.drew {w : World} {a : Option Addr} {n c z : Nat} {l : List Value} (h : Sl w a n c z l) : Sl w.drew a n c z l := ⟨h.len, h.cap, h.room, h.nilcap, h.cells⟩
theorem Bs.drew {w : World} {a : Option Addr} {n c : Nat} {l : List UInt8} (h : Bs w a n c l) : Bs w.drew a n c l := Sl.drew h
theorem flow_step {F : Nat → Prop} {W0 w w' : World} {X : Prop} (kk : Keep F W0 w) (kp : Keep F w w') (h : Keep F W0 w' → X) : Keep F w w' ∧ X := ⟨kp, h (kk.trans kp)⟩
/-- What is left of the region goes well from the world W; the reads are to yield in every world that keeps W outside F. -/
def FlowE (P : Program) (ops : List Oper) (Q : Exit → Act → World → Prop) (F : Nat → Prop) (fuel : Nat) (listed : Array Bool) (a : Act) (W : World) : Prop :=
  PanicsSame Q ∧ wpAnyH P .any ops.toArray Q (Keep F W) fuel listed a W
section
variable {P : Program} {ops : List Oper} {Q : Exit → Act → World → Prop} {F : Nat → Prop} {fuel : Nat} {listed : Array Bool} {a a' : Act} {W : World}
theorem flowe_begin {id : Nat} {l : List Oper} (hm : P.follows .mixedOrders = true) (n : Nat) (hn : l.length = n) (hq : PanicsSame Q) (h : PanicsSame Q → FlowE P l Q F n (List.replicate n false).toArray a W.drew) : (Code.region id l.toArray true).wp P Q a W := by
  subst hn
  refine wp_region_held (S := Keep F W.drew) hm ?_
  have := (h hq).2
  simpa using this
theorem flowe_take (i : Nat) {oi : Oper} {v : Value} (hp : PanicsSame Q) (hi : (ops.drop i).head? = some oi) (hc : (Region.noSelect ops.toArray && Region.free .any ops.toArray listed i && (Region.ready .any ops.toArray listed).contains i) = true)
    (hw : Region.wanted oi (yielded ops.toArray a.tmps) = true) (hrun : ∀ w, Keep F W w → (execOp a.eval oi).run P w = .ok (.value v) w) (ha : a.put oi.dst v = a')
    (h : FlowE P ops Q F fuel (listed.setIfInBounds i true) a' W) : FlowE P ops Q F (fuel + 1) listed a W := by
  subst ha
  simp only [Bool.and_eq_true] at hc
  exact ⟨hp, wpAnyH_take (at_of hi) hc.1.1 hc.1.2 hc.2 (fun c a' w' q => hp c _ _ _ (put_defers _ _ _) q) (.inl ⟨hw, fun w' k' => hrun w' k'⟩) (Keep.refl _ _) h.2⟩
theorem flowe_one (i : Nat) {oi : Oper} (hp : PanicsSame Q) (hi : (ops.drop i).head? = some oi) (hr : Region.ready .any ops.toArray listed = [i]) (hw : Region.wanted oi (yielded ops.toArray a.tmps) = true)
    (h : oi.wp P a W (fun a' w' => Keep F W w' ∧ FlowE P ops Q F fuel (listed.setIfInBounds i true) a' w') Q) : FlowE P ops Q F (fuel + 1) listed a W :=
  ⟨hp, wpAnyH_all hr (by simp) fun j hj => by
    obtain rfl : j = i := by simpa using hj
    refine wpOp_mono (K := fun a' w' => Keep F W w' ∧ FlowE P ops Q F fuel (listed.setIfInBounds j true) a' w') (fun a' w' h' => ⟨h'.1, wpAnyH_weak (fun x hx => h'.1.trans hx) _ _ _ _ h'.2.2⟩) ?_
    unfold wpOp
    simp only [at_of hi, hw, if_true]
    exact .inl h⟩
theorem flowe_done (hp : PanicsSame Q) (hr : Region.ready .any ops.toArray listed = []) (h : Q .normal a W) : FlowE P ops Q F fuel listed a W :=
  ⟨hp, wpAnyH_done hr h fuel⟩
end
end Go.Own
