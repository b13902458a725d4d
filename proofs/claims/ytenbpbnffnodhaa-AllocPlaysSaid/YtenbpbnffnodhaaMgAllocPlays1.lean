/- Texts of the proof of 'AllocPlays', part 1: words on memory, contracts of functions, plain laws. No condition. -/
import Derived.WalkKit
import Derived.Laws.AppendOwnNone
import Derived.OrdersHeld
import Derived.ProofKit
import Derived.OpenShut
import Derived.Deep.Slices
import Derived.Test.YtenbpbnffnodhaaProg
import Derived.Laws.BitsAllLaws
import Derived.Laws.Wrap64
import Derived.Laws.BitsLemmas
import Derived.Lib.Hide
import Derived.WalkSpells
import Derived.Deep.Draws
import Derived.Deep.QuietTactic
import Derived.BigQuiet
import Derived.LaidEql
import Derived.WideLaws
/- Words of this work on memory: a world kept outside some blocks; a slice of bytes that reads as a list. -/
namespace Go.Own
open Go Go.RowKit

/-- Outside the blocks F, below the old end of the heap, w' is as w was. -/
structure Keep (F : Nat → Prop) (w w' : World) : Prop where
  os : w'.os = w.os
  tape : w'.tape = w.tape
  output : w'.output = w.output
  size : w.heap.size ≤ w'.heap.size
  block : ∀ k, k < w.heap.size → ¬ F k → w'.heap[k]? = w.heap[k]?

theorem Keep.refl (F : Nat → Prop) (w : World) : Keep F w w := ⟨rfl, rfl, rfl, Nat.le_refl _, fun _ _ _ => rfl⟩
theorem Keep.trans {F : Nat → Prop} {a b c : World} (h : Keep F a b) (k : Keep F b c) : Keep F a c :=
  ⟨k.os.trans h.os, k.tape.trans h.tape, k.output.trans h.output, Nat.le_trans h.size k.size,
   fun i hi hf => (k.block i (Nat.lt_of_lt_of_le hi h.size) hf).trans (h.block i hi hf)⟩
theorem Keep.mono {F G : Nat → Prop} {w w' : World} (h : Keep F w w') (hg : ∀ k, k < w.heap.size → F k → G k) : Keep G w w' :=
  ⟨h.os, h.tape, h.output, h.size, fun k hk hn => h.block k hk fun hf => hn (hg k hk hf)⟩
theorem Keep.below {F : Nat → Prop} {B : Nat} {w w' : World} (h : Keep F w w') (hB : B ≤ w.heap.size) (hf : ∀ k, k < B → ¬ F k) : Below B w w' :=
  ⟨h.os, h.tape, h.output, h.size, fun k hk => h.block k (Nat.lt_of_lt_of_le hk hB) (hf k hk)⟩
theorem Keep.of_below {F : Nat → Prop} {w w' : World} (h : Below w.heap.size w w') : Keep F w w' :=
  ⟨h.os, h.tape, h.output, h.size, fun k hk _ => h.block k hk⟩

theorem cell_of_block {w w' : World} {p : Addr} (h : w'.heap[p.block]? = w.heap[p.block]?) : w'.cell? p = w.cell? p := World.cell?_of_block (w := w) h

/-- The slice value 'slice a n c', of elements of z cells each, reads as these cells. -/
structure Sl (w : World) (a : Option Addr) (n c z : Nat) (vs : List Value) : Prop where
  len : vs.length = n * z
  cap : n ≤ c
  room : c ≤ 9223372036854775807
  nilcap : a = none → c = 0
  cells : ∀ i v, vs[i]? = some v → ∃ b off, a = some ⟨b, off, none⟩ ∧ w.cell? ⟨b, off + i, none⟩ = some v

/-- The block that a slice lies in is none of these. -/
def off (F : Nat → Prop) (a : Option Addr) : Prop := ∀ p, a = some p → ¬ F p.block

theorem Sl.keep {F : Nat → Prop} {w w' : World} {a : Option Addr} {n c z : Nat} {l : List Value} (h : Sl w a n c z l) (k : Keep F w w') (hf : off F a) : Sl w' a n c z l where
  len := h.len
  cap := h.cap
  room := h.room
  nilcap := h.nilcap
  cells := fun i v hi => by
    obtain ⟨b, o, e, hc⟩ := h.cells i v hi
    refine ⟨b, o, e, ?_⟩
    rw [cell_of_block (w := w) (p := ⟨b, o + i, none⟩) (k.block b (World.block_lt_of_cell? w _ hc) (hf _ e))]; exact hc
theorem Sl.below {w w' : World} {a : Option Addr} {n c z : Nat} {l : List Value} (h : Sl w a n c z l) (k : Below w.heap.size w w') : Sl w' a n c z l :=
  h.keep (F := fun _ => False) (.of_below k) fun _ _ h => h
theorem Sl.nil (w : World) (z : Nat) : Sl w none 0 0 z [] := ⟨by simp, Nat.le_refl _, by decide, fun _ => rfl, fun i v h => by simp at h⟩
/-- A slice of a slice: 'b[i:j]', where it isn't cut at the capacity. -/
theorem Sl.cut {w : World} {b o n c z : Nat} {l : List Value} (h : Sl w (some ⟨b, o, none⟩) n c z l) (i j : Nat) (hij : i ≤ j) (hj : j ≤ n) :
    Sl w (some ⟨b, o + i * z, none⟩) (j - i) (c - i) z ((l.take (j * z)).drop (i * z)) where
  len := by
    have h1 : j * z ≤ n * z := Nat.mul_le_mul_right _ hj
    rw [List.length_drop, List.length_take, h.len, Nat.min_eq_left h1, Nat.sub_mul]
  cap := by have := h.cap; omega
  room := by have := h.room; omega
  nilcap := fun h => by cases h
  cells := fun k v hk => by
    rw [List.getElem?_drop, List.getElem?_take] at hk
    split at hk
    · obtain ⟨b', o', e, hc⟩ := h.cells _ v hk
      cases e
      exact ⟨b, o + i * z, rfl, by rw [Nat.add_assoc]; exact hc⟩
    · cases hk
theorem Sl.some {w : World} {a : Option Addr} {n c z : Nat} {l : List Value} (h : Sl w a n c z l) (hn : 0 < n) (hz : 0 < z) : ∃ b o, a = .some ⟨b, o, none⟩ ∧ b < w.heap.size := by
  have hl := h.len
  have hp : 0 < l.length := by rw [hl]; exact Nat.mul_pos hn hz
  obtain ⟨b, o, e, hc⟩ := h.cells 0 l[0] (by simp [hp])
  exact ⟨b, o, e, World.block_lt_of_cell? w _ hc⟩
theorem Sl.of_row {w : World} {b : Nat} {e : TypeId} {l r : List Value} {n c z : Nat} (h : w.heap[b]? = .some (.cells (l ++ r).toArray e (0, 0))) (hn : l.length = n * z) (hc : n ≤ c) (hr : c ≤ 9223372036854775807) : Sl w (.some ⟨b, 0, none⟩) n c z l where
  len := hn
  cap := hc
  room := hr
  nilcap := fun h => by cases h
  cells := fun i v hi => ⟨b, 0, rfl, by
    have hlt : i < l.length := (List.getElem?_eq_some_iff.1 hi).1
    simp only [World.cell?, h, Nat.zero_add]
    simp [List.getElem?_append_left hlt, hi]⟩
theorem Sl.of_owned {w : World} {base z : Nat} {e : TypeId} {v : Value} {n : Nat} {l : List Value} (h : w.ownsRow base e z v n l) :
    ∃ a c, v = .slice a n c ∧ (∀ p, a = .some p → base ≤ p.block) ∧ Sl w a n c z l := by
  obtain ⟨h1, h⟩ := h
  rcases h with ⟨rfl, h0⟩ | ⟨g, cap, cur, rfl, hb, hg, hnc, hcm, hcs, ht⟩
  · subst h0
    have : l = [] := List.eq_nil_of_length_eq_zero (by simpa using h1)
    subst this
    exact ⟨none, 0, rfl, fun _ h => (by cases h), Sl.nil w z⟩
  · refine ⟨.some ⟨g, 0, none⟩, cap, rfl, fun p hp => by cases hp; exact hb, Sl.of_row (e := e) (r := cur.toList.drop (n * z)) ?_ h1 hnc hcm⟩
    rw [← ht, List.take_append_drop]; simpa using hg

theorem Sl.lit (w : World) (e : TypeId) (l : List Value) (n z : Nat) (h : l.length = n * z) (hn : n ≤ 9223372036854775807) : Sl (w.alloc (.cells l.toArray e (0, 0))) (.some ⟨w.heap.size, 0, none⟩) n n z l :=
  Sl.of_row (e := e) (r := []) (by rw [List.append_nil]; exact heap_alloc_new w _) h (Nat.le_refl _) hn
theorem ownsRow_map {w : World} {base : Nat} {e : TypeId} {z : Nat} {v : Value} {n n' : Nat} {l l' : List Value} (h : w.ownsRow base e z v n l) (hn : n = n') (hl : l = l') : w.ownsRow base e z v n' l' := by subst hn; subst hl; exact h
/-- A byte, as a cell. -/
def bv (x : UInt8) : Value := .int .u8 (x.toNat : Nat)
/-- The slice value 'slice a n c' reads as the bytes l. -/
def Bs (w : World) (a : Option Addr) (n c : Nat) (l : List UInt8) : Prop := Sl w a n c 1 (l.map bv)
theorem bv_nat (q : Nat) : bv (UInt8.ofNat q) = .int .u8 ((q : Int) % 256) := by simp [bv]
theorem Bs.len {w : World} {a : Option Addr} {n c : Nat} {l : List UInt8} (h : Bs w a n c l) : n = l.length := by simpa using (Sl.len h).symm
theorem Bs.at {w : World} {a : Option Addr} {n c : Nat} {l : List UInt8} (h : Bs w a n c l) (i : Nat) (hi : i < l.length) :
    ∃ b off, a = some ⟨b, off, none⟩ ∧ w.cell? ⟨b, off + i, none⟩ = some (.int .u8 (l[i].toNat : Nat)) := Sl.cells h i _ (by simp [bv, hi])
theorem Bs.cut {w : World} {b o n c : Nat} {l : List UInt8} (h : Bs w (some ⟨b, o, none⟩) n c l) (i j : Nat) (hij : i ≤ j) (hj : j ≤ n) :
    Bs w (some ⟨b, o + i, none⟩) (j - i) (c - i) ((l.take j).drop i) := by
  have := Sl.cut h i j hij hj
  simpa [Bs, List.map_drop, List.map_take] using this
theorem Bs.below {w w' : World} {a : Option Addr} {n c : Nat} {l : List UInt8} (h : Bs w a n c l) (k : Below w.heap.size w w') : Bs w' a n c l := Sl.below h k
theorem Bs.keep {F : Nat → Prop} {w w' : World} {a : Option Addr} {n c : Nat} {l : List UInt8} (h : Bs w a n c l) (k : Keep F w w') (hf : off F a) : Bs w' a n c l := Sl.keep h k hf
theorem Bs.nil (w : World) : Bs w none 0 0 [] := Sl.nil w 1

/-- Block b is a row of these cells, none frozen. -/
def Row (w : World) (b : Nat) (e : TypeId) (l : List Value) : Prop := w.heap[b]? = some (.cells l.toArray e (0, 0))
theorem Row.lt {w : World} {b : Nat} {e : TypeId} {l : List Value} (h : Row w b e l) : b < w.heap.size := (Array.getElem?_eq_some_iff.1 h).1
theorem Row.cell {w : World} {b : Nat} {e : TypeId} {l : List Value} (h : Row w b e l) (i : Nat) : w.cell? ⟨b, i, none⟩ = l[i]? := by
  simp only [World.cell?]; rw [show w.heap[b]? = _ from h]; simp
theorem Row.frozen {w : World} {b : Nat} {e : TypeId} {l : List Value} (h : Row w b e l) (i : Nat) : w.frozen? ⟨b, i, none⟩ = false := by
  simp only [World.frozen?]; rw [show w.heap[b]? = _ from h]; simp
theorem Row.set {w : World} {b : Nat} {e : TypeId} {l : List Value} (h : Row w b e l) (i : Nat) (v : Value) : Row (w.setCell ⟨b, i, none⟩ v) b e (l.set i v) := by
  have h' : w.heap[b]? = _ := h
  unfold Row World.setCell
  simp only [Array.getElem?_modify, h']
  simp
theorem Row.keep {F : Nat → Prop} {w w' : World} {b : Nat} {e : TypeId} {l : List Value} (h : Row w b e l) (k : Keep F w w') (hb : ¬ F b) : Row w' b e l :=
  (k.block b h.lt hb).trans h
theorem Row.below {w w' : World} {b : Nat} {e : TypeId} {l : List Value} (h : Row w b e l) (k : Below w.heap.size w w') : Row w' b e l := (k.block b h.lt).trans h
theorem Row.alloc {w : World} {b : Nat} {e : TypeId} {l : List Value} (h : Row w b e l) (o : Obj) : Row (w.alloc o) b e l := h.below ((Below.refl _ _).alloc (Nat.le_refl _) o)
theorem Row.made (w : World) (e : TypeId) (l : List Value) : Row (w.alloc (.cells l.toArray e (0, 0))) w.heap.size e l := heap_alloc_new w _
theorem Keep.setCell {F : Nat → Prop} {a w : World} (h : Keep F a w) {p : Addr} (hp : F p.block ∨ a.heap.size ≤ p.block) (u : Value) : Keep F a (w.setCell p u) :=
  ⟨h.os, h.tape, h.output, by simpa [World.setCell] using h.size, fun k hk hf => (Below.heap_setCell _ _ _ _ (by rintro rfl; rcases hp with hp | hp; exact hf hp; omega)).trans (h.block k hk hf)⟩
theorem Keep.drew {F : Nat → Prop} {a w : World} (h : Keep F a w) : Keep F a w.drew := ⟨h.os, h.tape, h.output, h.size, h.block⟩
theorem Keep.alloc {F : Nat → Prop} {a w : World} (h : Keep F a w) (o : Obj) : Keep F a (w.alloc o) :=
  ⟨h.os, h.tape, h.output, by have := h.size; simp; omega, fun k hk hf => (Below.heap_alloc _ _ _ (by have := h.size; omega)).trans (h.block k hk hf)⟩

theorem Bs.of_row {w : World} {b : Nat} {e : TypeId} {l : List UInt8} {r : List Value} {n c : Nat} (h : Row w b e (l.map bv ++ r)) (hn : n = l.length) (hc : n ≤ c) (hr : c ≤ 9223372036854775807) : Bs w (some ⟨b, 0, none⟩) n c l :=
  Sl.of_row (e := e) h (by simp [hn]) hc hr

/-- A function tells new bytes: a slice in new memory. -/
def NewBs (w : World) (l : List UInt8) (e : Ending) (w' : World) : Prop :=
  ∃ a n c, e = .returned (.slice a n c) ∧ Bs w' a n c l ∧ (∀ p, a = some p → w.heap.size ≤ p.block) ∧ Below w.heap.size w w'

/-- What the program's table tells of an element type. -/
def Info (P : Program) (e : TypeId) (z : Value) (size bytes : Nat) : Prop := (P.info? e).map (fun i => (i.zero, i.size, i.bytes)) = some (some z, size, bytes)
theorem Info.parts {P : Program} {e : TypeId} {z : Value} {s b : Nat} (h : Info P e z s b) : ∃ i, P.info? e = some i ∧ i.zero = some z ∧ i.size = s ∧ i.bytes = b := by
  cases hi : P.info? e with
  | none => simp [Info, hi] at h
  | some i => simp [Info, hi] at h; exact ⟨i, rfl, h⟩
theorem madeCells_one (z : Value) (n : Nat) : madeCells #[z] n = (List.replicate n z).toArray := by
  apply Array.ext
  · simp [madeCells]
  · intro i h1 h2
    simp [madeCells, Nat.mod_one]
/-- 'make([]T, n)', T of one cell. -/
theorem run_mk1 {P : Program} (t e : TypeId) (z : Value) (bytes : Nat) (ht : P.underlying t = some (.slice e)) (hi : Info P e z 1 bytes) (hz : z.cells = #[z]) (m : Int) (n : Nat) (hm : m = n)
    (hb : bytes * n ≤ 281474976710656) (h63 : n ≤ 9223372036854775807) (w : World) :
    (Instr.makeSlice t (.int .i64 m) (.int .i64 m)).run P w = .ok (.slice (some ⟨w.heap.size, 0, none⟩) n n) (w.alloc (.cells (List.replicate n z).toArray e (0, 0))) := by
  obtain ⟨i, hi, iz, is, ib⟩ := hi.parts
  subst hm
  have hb' : (i.bytes : Int) * (n : Int) ≤ 281474976710656 := by rw [ib, ← Int.natCast_mul]; omega
  have := run_make (P := P) w t e i z ht hi iz .i64 .i64 n n (by omega) (Int.le_refl _) hb' (by omega)
  rw [this, hz, is]; simp [madeCells_one]
theorem one1 {v : Value} (h : v.oneCell' = true) : ∀ u ∈ [v], u.oneCell' = true := by intro u hu; cases hu; exact h; contradiction
/-- A literal slice without elements. -/
theorem own_empty (w : World) (e : TypeId) (z : Nat) : (w.alloc (.cells #[] e (0, 0))).ownsRow w.heap.size e z (.slice (some ⟨w.heap.size, 0, none⟩) 0 0) 0 [] :=
  World.ownsRow_made w #[] 0 (Nat.le_refl _) (by decide) (by simp)
/-- What is wanted is done. -/
theorem at_wanted {P : Program} {ops : Array Oper} {rest : List Oper} {o : Oper} {a : Act} {w : World} {Q : Exit → Act → World → Prop} (hw : Region.wanted o (yielded ops a.tmps) = true)
    (h : ∀ K : Act → World → Prop, (∀ a w, wpList P ops Q rest a w → K a w) → o.wp P a w K Q) : wpList P ops Q (o :: rest) a w := by
  unfold wpList
  rw [if_pos hw]
  exact .inl (h _ fun _ _ h => h)
theorem bv_one (l : List UInt8) : ∀ u ∈ l.map bv, u.oneCell' = true := by
  intro u hu; obtain ⟨x, _, rfl⟩ := List.mem_map.1 hu; rfl

/-! ### Whole variables of several cells -/
theorem run_alloc_row {P : Program} {t : TypeId} {i : TypeInfo} {z : Value} (hi : P.info? t = some i) (hz : i.zero = some z) (w : World) (old : Value) :
    (Instr.alloc t true old).run P w = .ok (.pointer (some ⟨w.heap.size, 0, none⟩)) (w.alloc (.cells z.cells t (0, 0))) := by
  simp [Instr.alloc, zeroValue, typeInfo, hi, hz, newVar, newRow]
/-- 'alloc T', T of several cells. -/
theorem alloc_row {P : Program} {ops : Array Oper} {rest : List Oper} {o : Oper} {a : Act} {w : World} {Q : Exit → Act → World → Prop} (hgd : o.guard = none) (t : TypeId) (ho : o.op = .alloc t)
    (z : Value) (s b : Nat) (hi : Info P t z s b) (cs : List Value) (hc : z.cells = cs.toArray)
    (h : wpList P ops Q rest (a.put o.dst (.pointer (some ⟨w.heap.size, 0, none⟩))) (w.alloc (.cells cs.toArray t (0, 0)))) : wpList P ops Q (o :: rest) a w := by
  obtain ⟨i, hi, hz, _, _⟩ := hi.parts
  refine wpList_plain hgd fun K hK => ?_
  unfold Oper.wp execOp
  simp only [ho]
  simp [run_alloc_row hi hz, hc, Result.andThen]
  exact hK _ _ h
/-- 'x = v', x a variable of several cells, v an aggregate. -/
theorem store_row {P : Program} {ops : Array Oper} {rest : List Oper} {o : Oper} {a : Act} {w : World} {Q : Exit → Act → World → Prop} (hgd : o.guard = none) (t : TypeId) (x y : Operand) (ho : o.op = .store t x y)
    (g : Nat) (hx : a.eval x = .pointer (some ⟨g, 0, none⟩)) (cs : List Value) (hy : a.eval y = .agg cs.toArray) (e : TypeId) (old : List Value) (hg : Row w g e old) (hs : (P.info? t).map (·.size) = some cs.length) (hl : old.length = cs.length)
    (h1 : ∀ u ∈ cs, u.oneCell' = true) (h : ∀ w', Row w' g e cs → Keep (· = g) w w' → wpList P ops Q rest (a.put o.dst undef) w') : wpList P ops Q (o :: rest) a w := by
  cases hi : P.info? t with
  | none => rw [hi] at hs; cases hs
  | some i =>
    rw [hi] at hs
    simp only [Option.map_some, Option.some.injEq] at hs
    refine wpList_plain hgd fun K hK => ?_
    have hst := run_storeVar_row (P := P) w g e t old.toArray cs.toArray hg (by rw [hi]; simp [hs]) (by simpa using hl) (by simpa using h1)
    unfold Oper.wp execOp
    simp only [ho, hx, hy, Instr.storeAt, Instr.sureAddr]
    simp [Sem.run_bind, Result.andThen, hst]
    refine hK _ _ (h _ ?_ ?_)
    · exact setRow_heap w g old.toArray cs.toArray e (0, 0) hg
    · exact ⟨rfl, rfl, rfl, by simp, fun k _ hk => setRow_other w g k cs.toArray hk⟩

/-- 'v = x', x a variable of several cells. -/
theorem load_row {P : Program} {ops : Array Oper} {rest : List Oper} {o : Oper} {a : Act} {w : World} {Q : Exit → Act → World → Prop} (hgd : o.guard = none) (t : TypeId) (x : Operand) (ho : o.op = .load t x)
    (g : Nat) (hx : a.eval x = .pointer (some ⟨g, 0, none⟩)) (e : TypeId) (cs : List Value) (d : TypeDesc) (hg : Row w g e cs)
    (hu : P.underlying t = some d) (hd : (match d with | .struct _ | .array _ _ => true | _ => false) = true) (hi : (P.info? t).map (·.size) = some cs.length)
    (h : wpList P ops Q rest (a.put o.dst (.agg cs.toArray)) w) : wpList P ops Q (o :: rest) a w :=
  wpList_load_row hgd t x ho g hx e cs.toArray (0, 0) d hg hu hd (by simpa using hi) h

/-! ### A region that draws its order: reads and sums are taken as soon as they may be, in whatever world that keeps what stood outside F; calls one by one. -/
theorem wpAnyH_weak {P : Program} {ops : Array Oper} {Q : Exit → Act → World → Prop} {md : Region.Mode} {S S' : World → Prop} (hS : ∀ w, S' w → S w) :
    ∀ (fuel : Nat) (listed : Array Bool) (a : Act) (w : World), wpAnyH P md ops Q S' fuel listed a w → wpAnyH P md ops Q S fuel listed a w
  | 0, _, _, _, h => h
  | fuel + 1, _, _, _, h => ⟨h.1, fun i hi => wpOp_mono (fun a' w' h' => ⟨hS _ h'.1, wpAnyH_weak hS fuel _ a' w' h'.2⟩) (h.2 i hi)⟩
/-- What Q says of a panic doesn't hang on the slots. -/
def PanicsSame (Q : Exit → Act → World → Prop) : Prop := ∀ c a a' w, a'.defers = a.defers → Q (.panic c) a' w → Q (.panic c) a w
theorem ps_then {K : Act → World → Prop} {Q : Exit → Act → World → Prop} (h : PanicsSame Q) : PanicsSame (Exit.then K Q) := fun c a a' w e hq => h c a a' w e hq
theorem ps_block {id : Nat} {Q : Exit → Act → World → Prop} (h : PanicsSame Q) : PanicsSame (Exit.inBlock id Q) := fun c a a' w e hq => h c a a' w e hq
theorem ps_body {P : Program} {fn : Func} {R : Ending → World → Prop} : PanicsSame (bodyPost P fn R) := fun _ _ _ _ e hq => ⟨e ▸ hq.1, hq.2⟩
theorem put_defers (a : Act) (d : Option Tmp) (v : Value) : (a.put d v).defers = a.defers := by cases d <;> rfl
section
variable {P : Program} {ops : List Oper} {Q : Exit → Act → World → Prop} {F : Nat → Prop} {fuel : Nat} {listed : Array Bool} {a a' : Act} {W : World}
theorem at_of {i : Nat} {oi : Oper} (h : (ops.drop i).head? = some oi) : ops.toArray[i]? = some oi := by simpa using h
theorem wp_next {o : Oper} {a : Act} {w : World} {next : Act → World → Prop} (h : ∀ K : Act → World → Prop, (∀ a w, next a w → K a w) → o.wp P a w K Q) : o.wp P a w next Q := h _ fun _ _ h => h
end

theorem rI {k : IntKind} {a b : Int} (h : a = b) : Ending.returned (.int k a) = .returned (.int k b) := by rw [h]
theorem rB {a b : Bool} (h : a = b) : Ending.returned (.bool a) = .returned (.bool b) := by rw [h]
theorem rIB {k : IntKind} {a b : Int} {x y : Bool} (h : a = b) (g : x = y) : Ending.returned (.tuple #[.int k a, .bool x]) = .returned (.tuple #[.int k b, .bool y]) := by rw [h, g]
theorem vI {k : IntKind} {a b : Int} (h : a = b) : Value.int k a = .int k b := by rw [h]
theorem decT {p : Prop} [Decidable p] (h : p) : true = decide p := (decide_eq_true h).symm
theorem decF {p : Prop} [Decidable p] (h : ¬ p) : false = decide p := (decide_eq_false h).symm
end Go.Own

/- What comes in, opened by its shape: numbers, truth values, slices of these, structs of these, to any depth. -/
namespace Go.Own
open Go Go.RowKit Go.ChangeShapes Go.WideShapes
/-- A shape; a struct is its fields, one behind the other. -/
inductive Sh where
  | int (k : IntKind)
  | bool
  | sl (s : Sh)
  | nil
  | cons (s r : Sh)
def Sh.width : Sh → Nat
  | .int _ => 1
  | .bool => 1
  | .sl _ => 1
  | .nil => 0
  | .cons s r => s.width + r.width
/-- These cells read as the shape. -/
def Rd (w : World) : Sh → List Value → Prop
  | .int k, cs => ∃ x, cs = [.int k x] ∧ (Lit.int k x).wf = true
  | .bool, cs => ∃ b, cs = [.bool b]
  | .sl s, cs => ∃ (a : Option Addr) (n c : Nat) (rows : List (List Value)), cs = [.slice a n c] ∧ rows.length = n ∧ (∀ r ∈ rows, r.length = s.width ∧ Rd w s r) ∧ Sl w a n c s.width rows.flatten
  | .nil, cs => cs = []
  | .cons s r, cs => ∃ x y, cs = x ++ y ∧ x.length = s.width ∧ Rd w s x ∧ Rd w r y
theorem flatten_at {z : Nat} {v : Value} : ∀ (rows : List (List Value)) (i : Nat), (∀ r ∈ rows, r.length = z) → rows.flatten[i]? = some v →
    ∃ k j r, i = k * z + j ∧ j < z ∧ rows[k]? = some r ∧ r[j]? = some v
  | [], i, _, h => by simp at h
  | r :: rows, i, hr, h => by
    have hz := hr r (List.mem_cons_self ..)
    rw [List.flatten_cons] at h
    by_cases hi : i < z
    · rw [List.getElem?_append_left (by omega)] at h
      exact ⟨0, i, r, by omega, hi, rfl, h⟩
    · rw [List.getElem?_append_right (by omega), hz] at h
      obtain ⟨k, j, r', e, hj, h1, h2⟩ := flatten_at rows (i - z) (fun r h => hr r (List.mem_cons_of_mem _ h)) h
      exact ⟨k + 1, j, r', by rw [Nat.succ_mul]; omega, hj, by simpa using h1, h2⟩
theorem flatten_len {z : Nat} : ∀ (rows : List (List Value)), (∀ r ∈ rows, r.length = z) → rows.flatten.length = rows.length * z
  | [], _ => by simp
  | r :: rows, hr => by
    rw [List.flatten_cons, List.length_append, flatten_len rows (fun r h => hr r (List.mem_cons_of_mem _ h)), hr r (List.mem_cons_self ..), List.length_cons, Nat.succ_mul]; omega
/-- What reads as a type's datum reads as the shape. -/
def Opens (P : Program) (t : TypeId) (s : Sh) : Prop := ∀ (H : Type) (enc : TypeId × Value → H) (w : World) (fuel : Nat) (cs : List Value) (x : DataW H × List MemPlace),
  DataW.trod enc P w 0 (fun _ => true) true fuel t cs = some x → Rd w s cs ∧ cs.length = s.width
def OpensF (P : Program) (fs : List Field) (o : Nat) (s : Sh) : Prop := ∀ (H : Type) (enc : TypeId × Value → H) (w : World) (fuel : Nat) (cs : List Value),
  (∀ f ∈ fs, ∃ x, DataW.trod enc P w 0 (fun _ => true) true fuel f.type ((cs.drop f.offset).take (P.cellsOf f.type)) = some x) → cs.length = o + s.width → Rd w s (cs.drop o)
theorem opens_int {P : Program} {t : TypeId} {k : IntKind} (ht : P.underlying t = some (.int k)) : Opens P t (.int k) := by
  intro H enc w fuel cs x h
  obtain ⟨n, rfl, _, hn⟩ := DataW.trod_int ht h
  exact ⟨⟨n, rfl, hn⟩, rfl⟩
theorem opens_bool {P : Program} {t : TypeId} (ht : P.underlying t = some .bool) : Opens P t .bool := by
  intro H enc w fuel cs x h
  obtain ⟨b, rfl, _⟩ := DataW.trod_bool ht h
  exact ⟨⟨b, rfl⟩, rfl⟩
theorem spot_none {w : World} {a : Addr} {v : Value} (h : w.cell? a = some v) : a.spot = none := by
  obtain ⟨b, o, sp⟩ := a
  cases sp with
  | none => rfl
  | some s => exfalso; revert h; simp only [World.cell?]; split <;> simp
theorem add_none (b o q : Nat) : (⟨b, o, none⟩ : Addr).add q = ⟨b, o + q, none⟩ := by unfold Addr.add; split <;> simp_all
theorem opens_sl {P : Program} {t e : TypeId} {s : Sh} (ht : P.underlying t = some (.slice e)) (hc : P.cellsOf e = s.width) (he : Opens P e s) : Opens P t (.sl s) := by
  intro H enc w fuel cs x h
  rcases Deep.open_slice ht h with ⟨rfl, _⟩ | ⟨a, len, cap, m, n, D, Pl, rfl, _, hl, hm, hmm, _, hi⟩
  · exact ⟨⟨none, 0, 0, [], rfl, rfl, (fun r h => by cases h), Sl.nil w _⟩, rfl⟩
  · obtain rfl : m = cap := by simpa using hmm
    rw [hc] at hi
    obtain ⟨f, hf⟩ := Deep.choose_lt (n := m) (p := fun i cs' => w.cells? 0 (a.add (i * s.width)) s.width = some cs' ∧ DataW.trod enc P w 0 (fun _ => true) true n e cs' = some (D i, Pl i)) hi
    have hrow : ∀ r ∈ (List.range len).map f, r.length = s.width ∧ Rd w s r := by
      intro r hr
      obtain ⟨i, hi', rfl⟩ := List.mem_map.1 hr
      have hi' := List.mem_range.1 hi'
      obtain ⟨h1, h2⟩ := he H enc w n (f i) _ (hf i (by omega)).2
      exact ⟨h2, h1⟩
    refine ⟨⟨some a, len, m, (List.range len).map f, rfl, by simp, hrow, ?_⟩, rfl⟩
    refine ⟨by rw [flatten_len _ fun r hr => (hrow r hr).1]; simp, hl, by unfold maxLen at hm; omega, (fun h => by cases h), fun i v hv => ?_⟩
    obtain ⟨k, j, r, rfl, hj, h1, h2⟩ := flatten_at _ i (fun r hr => (hrow r hr).1) hv
    have hk : k < len := by
      have := (List.getElem?_eq_some_iff.1 h1).1
      simpa using this
    obtain rfl : r = f k := by
      rw [List.getElem?_map, List.getElem?_range hk] at h1
      simpa using h1.symm
    obtain ⟨_, hlen, hat⟩ := World.cells?_some (hf k (by omega)).1
    have hcell := hat j hj
    rw [Deep.add_add, h2] at hcell
    obtain ⟨_, _, hat0⟩ := World.cells?_some (hf 0 (by omega)).1
    have h00 := spot_none (v := (f 0)[0]'(by have := (hrow (f 0) (List.mem_map.2 ⟨0, List.mem_range.2 (by omega), rfl⟩)).1; omega)) (by
      have := hat0 0 (by omega)
      rw [Deep.add_add, Nat.zero_mul, List.getElem?_eq_getElem] at this
      exact this)
    obtain ⟨b, o, sp⟩ := a
    have hs : sp = none := by simpa [Addr.add] using h00
    subst hs
    refine ⟨b, o, rfl, ?_⟩
    rw [add_none] at hcell
    exact hcell
theorem opens_st {P : Program} {t : TypeId} {fs : Array Field} {s : Sh} (ht : P.underlying t = some (.struct fs)) (hc : P.cellsOf t = s.width) (hf : OpensF P fs.toList 0 s) : Opens P t s := by
  intro H enc w fuel cs x h
  obtain ⟨xs, n, _, _, hl, hxl, hg⟩ := DataW.trod_struct ht h
  have := hf H enc w n cs (fun f hm => by
    obtain ⟨i, hi, he⟩ := List.getElem_of_mem hm
    have hi' : i < fs.size := by simpa using hi
    have h1 := hg i f (by rw [Array.getElem?_eq_getElem hi']; simpa using he)
    exact ⟨xs[i]'(by omega), h1.trans (List.getElem?_eq_getElem (by omega))⟩) (by rw [hl, hc]; omega)
  exact ⟨by simpa using this, by rw [hl, hc]⟩
theorem openF_nil {P : Program} {o : Nat} : OpensF P [] o .nil := by
  intro H enc w fuel cs _ hl
  exact List.drop_eq_nil_of_le (by simp [Sh.width] at hl; omega)
theorem openF_cons {P : Program} {f : Field} {fs : List Field} {o : Nat} {s r : Sh} (ho : f.offset = o) (hc : P.cellsOf f.type = s.width) (h : Opens P f.type s) (hr : OpensF P fs (o + s.width) r) : OpensF P (f :: fs) o (.cons s r) := by
  intro H enc w fuel cs hfs hl
  simp only [Sh.width] at hl
  obtain ⟨x, hx⟩ := hfs f (List.mem_cons_self ..)
  rw [ho, hc] at hx
  obtain ⟨h1, h2⟩ := h H enc w fuel _ x hx
  have h3 := hr H enc w fuel cs (fun f' hf' => hfs f' (List.mem_cons_of_mem _ hf')) (by omega)
  refine ⟨_, _, ?_, h2, h1, h3⟩
  rw [← List.drop_drop, List.take_append_drop]
theorem exists_map {α : Type} {f : α → List Value} {p : α → Prop} : ∀ (rows : List (List Value)), (∀ r ∈ rows, ∃ d, r = f d ∧ p d) → ∃ ds : List α, rows = ds.map f ∧ ∀ d ∈ ds, p d
  | [], _ => ⟨[], rfl, fun d h => by cases h⟩
  | r :: rows, h => by
    obtain ⟨d, rfl, hd⟩ := h r (List.mem_cons_self ..)
    obtain ⟨ds, rfl, hds⟩ := exists_map rows fun r hr => h r (List.mem_cons_of_mem _ hr)
    exact ⟨d :: ds, rfl, fun x hx => by rcases List.mem_cons.1 hx with rfl | hx; exact hd; exact hds x hx⟩
theorem flatten_one {α : Type} (f : α → Value) (ds : List α) : (ds.map fun d => [f d]).flatten = ds.map f := by
  induction ds with
  | nil => rfl
  | cons d ds ih => simp [ih]
/-- A slice of bytes. -/
theorem Rd.bytes {w : World} {a : Option Addr} {n c : Nat} (h : Rd w (.sl (.int .u8)) [.slice a n c]) : ∃ l, Bs w a n c l := by
  obtain ⟨a', n', c', rows, he, hn, hr, hs⟩ := h
  cases he
  obtain ⟨ds, rfl, _⟩ := exists_map (f := fun x : UInt8 => [bv x]) (p := fun _ => True) rows fun r hr' => by
    obtain ⟨_, x, rfl, hx⟩ := hr r hr'
    simp [Lit.wf, IntKind.min, IntKind.max, IntKind.bits, IntKind.signed] at hx
    refine ⟨UInt8.ofNat x.toNat, ?_, trivial⟩
    rw [bv_nat]
    congr 2
    omega
  exact ⟨ds, by rw [flatten_one] at hs; exact hs⟩
/-- The slice value reads as these numbers. -/
def Is (w : World) (k : IntKind) (a : Option Addr) (n c : Nat) (l : List Int) : Prop := Sl w a n c 1 (l.map (.int k ·)) ∧ ∀ x ∈ l, (Lit.int k x).wf = true
theorem Rd.ints {w : World} {k : IntKind} {a : Option Addr} {n c : Nat} (h : Rd w (.sl (.int k)) [.slice a n c]) : ∃ l, Is w k a n c l := by
  obtain ⟨a', n', c', rows, he, hn, hr, hs⟩ := h
  cases he
  obtain ⟨ds, rfl, hd⟩ := exists_map (f := fun x : Int => [.int k x]) (p := fun x => (Lit.int k x).wf = true) rows fun r hr' => (hr r hr').2
  exact ⟨ds, by rw [flatten_one] at hs; exact hs, hd⟩
/-- The slice value reads as these truth values. -/
def Ts (w : World) (a : Option Addr) (n c : Nat) (l : List Bool) : Prop := Sl w a n c 1 (l.map (.bool ·))
/-- The one cell of a slice. -/
theorem Rd.slice {w : World} {s : Sh} {cs : List Value} (h : Rd w (.sl s) cs) : ∃ a n c, cs = [.slice a n c] ∧ Rd w (.sl s) [.slice a n c] := by
  obtain ⟨a, n, c, rows, rfl, h⟩ := h
  exact ⟨a, n, c, rfl, a, n, c, rows, rfl, h⟩
end Go.Own

/- What a dump's head says, word by word: so that the kernel needn't read a long head sign by sign. -/
namespace Go.Own
open Go
theorem words_step (p r : List Char) (h : p.all (fun c => !(c == Char.ofNat 32)) = true) : wordsSigns (p ++ Char.ofNat 32 :: r) = p :: wordsSigns r := by
  induction p with
  | nil => rfl
  | cons c p ih =>
    simp only [List.all_cons, Bool.and_eq_true, Bool.not_eq_true', beq_eq_false_iff_ne] at h
    have hne := h.1
    have e := ih h.2
    generalize wordsSigns r = ws at e ⊢
    rw [List.cons_append]
    unfold wordsSigns
    split
    · rename_i e; cases e
    · rename_i e; injection e with e1 e2; exact absurd e1 hne
    · rename_i e3
      injection e3 with e1 e2
      subst e1; subst e2
      rw [e]
/-- A head of three words, and more. -/
theorem head_words {s : String} {a b c r : List Nat} (hs : s = String.ofList ((a ++ 32 :: (b ++ 32 :: (c ++ 32 :: r))).map Char.ofNat))
    (ha : (a.map Char.ofNat).all (fun c => !(c == Char.ofNat 32)) = true) (hb : (b.map Char.ofNat).all (fun c => !(c == Char.ofNat 32)) = true) (hc : (c.map Char.ofNat).all (fun c => !(c == Char.ofNat 32)) = true) :
    wordsSigns s.toList = a.map Char.ofNat :: b.map Char.ofNat :: c.map Char.ofNat :: wordsSigns (r.map Char.ofNat) := by
  rw [hs, String.toList_ofList]
  simp only [List.map_append, List.map_cons]
  rw [words_step _ _ ha, words_step _ _ hb, words_step _ _ hc]
section
variable {P : Program} {a b r : List Nat}
def cutW : List Nat := [99, 117, 116]
theorem behind_words (w : List Char) (h1 : (a.map Char.ofNat == "harness".toList) = true) (h2 : isSumSigns (b.map Char.ofNat) = true) (rest : List (List Char)) : behindMainWord (a.map Char.ofNat :: b.map Char.ofNat :: w :: rest) = w :: rest := by
  show (if ((a.map Char.ofNat == "harness".toList || a.map Char.ofNat == "ownmain".toList) && isSumSigns (b.map Char.ofNat)) = true then w :: rest else _) = _
  rw [h1, h2]
  rfl
theorem make_head (hw : wordsSigns P.initOrder.toList = a.map Char.ofNat :: b.map Char.ofNat :: cutW.map Char.ofNat :: wordsSigns (r.map Char.ofNat)) (h1 : (a.map Char.ofNat == "harness".toList) = true) (h2 : isSumSigns (b.map Char.ofNat) = true) : P.make = some .cut := by
  unfold Program.make
  rw [hw, behind_words _ h1 h2]
  generalize wordsSigns (r.map Char.ofNat) = ws
  kernel_rfl
theorem strip_cut (ws : List (List Char)) : stripLifts liftWords (cutW.map Char.ofNat :: ws) = ([], cutW.map Char.ofNat :: ws) := by kernel_rfl
theorem lifts_head (hw : wordsSigns P.initOrder.toList = a.map Char.ofNat :: b.map Char.ofNat :: cutW.map Char.ofNat :: wordsSigns (r.map Char.ofNat)) (h1 : (a.map Char.ofNat == "harness".toList) = true) (h2 : isSumSigns (b.map Char.ofNat) = true) : P.liftsFinal = false := by
  unfold Program.liftsFinal Program.headLifts
  rw [hw, behind_words _ h1 h2]
  generalize wordsSigns (r.map Char.ofNat) = ws
  rw [strip_cut]
  kernel_rfl
theorem enter_head (hw : wordsSigns P.initOrder.toList = a.map Char.ofNat :: b.map Char.ofNat :: cutW.map Char.ofNat :: wordsSigns (r.map Char.ofNat)) (h1 : (a.map Char.ofNat == "harness".toList) = true) (h2 : isSumSigns (b.map Char.ofNat) = true)
    (hl : P.laysLater = false) (hb : P.bearsReflect = false) (hd : P.doorFits [] = true) : P.mayEnter = true := by
  unfold Program.mayEnter
  rw [hw, behind_words _ h1 h2]
  generalize wordsSigns (r.map Char.ofNat) = ws
  simp only
  rw [strip_cut, hl, hb]
  simp only
  rw [hd]
  have e1 : ((cutW.map Char.ofNat) == "gc".toList) = false := by kernel_rfl
  have e2 : ((cutW.map Char.ofNat) == "spec".toList) = false := by kernel_rfl
  have e3 : ((cutW.map Char.ofNat) == "carried".toList) = false := by kernel_rfl
  have e4 : ((cutW.map Char.ofNat :: ws).head? == some "cut".toList) = true := by kernel_rfl
  rw [e1, e2, e3, e4]
  rfl
end
end Go.Own

/- What the dump's head says. No condition. -/
namespace Go.Proofs.Ytenbpbnffnodhaa.Facts
open Go Go.Own
set_option maxRecDepth 100000
def headA : List Nat := [104, 97, 114, 110, 101, 115, 115]
def headB : List Nat := [101, 51, 102, 50, 98, 101, 50, 53, 50, 54, 54, 97, 54, 97, 54, 54, 52, 98, 101, 97, 98, 100, 101, 99, 56, 56, 99, 50, 51, 50, 48, 53, 49, 97, 52, 97, 100, 102, 98, 55, 53, 98, 101, 100, 56, 55, 51, 100, 98, 50, 50, 50, 102, 57, 49, 51, 52, 56, 57, 52, 99, 49, 50, 97]
def headR : List Nat := [97, 116, 32, 99, 97, 110, 116, 108, 101, 47, 99, 97, 110, 116, 108, 101, 108, 97, 119, 48, 52, 46, 68, 105, 115, 107, 83, 116, 97, 110, 100, 115, 32, 99, 97, 110, 116, 108, 101, 47, 99, 97, 110, 116, 108, 101, 108, 97, 119, 48, 52, 46, 68, 105, 115, 107, 80, 108, 97, 121, 115, 32, 99, 97, 110, 116, 108, 101, 47, 99, 97, 110, 116, 108, 101, 108, 97, 119, 48, 51, 46, 65, 114, 101, 110, 97, 80, 108, 97, 121, 115, 32, 99, 97, 110, 116, 108, 101, 47, 99, 97, 110, 116, 108, 101, 108, 97, 119, 48, 53, 46, 69, 120, 116, 101, 110, 116, 84, 101, 108, 108, 115, 32, 99, 97, 110, 116, 108, 101, 47, 99, 97, 110, 116, 108, 101, 108, 97, 119, 48, 53, 46, 69, 120, 116, 101, 110, 116, 66, 97, 99, 107, 32, 99, 97, 110, 116, 108, 101, 47, 99, 97, 110, 116, 108, 101, 108, 97, 119, 48, 55, 46, 66, 108, 111, 99, 107, 66, 97, 99, 107, 32, 99, 97, 110, 116, 108, 101, 47, 99, 97, 110, 116, 108, 101, 108, 97, 119, 48, 55, 46, 66, 108, 111, 99, 107, 84, 101, 108, 108, 115, 32, 99, 97, 110, 116, 108, 101, 47, 99, 97, 110, 116, 108, 101, 108, 97, 119, 49, 53, 46, 73, 109, 97, 103, 101, 80, 117, 116, 115, 32, 99, 97, 110, 116, 108, 101, 47, 99, 97, 110, 116, 108, 101, 108, 97, 119, 49, 53, 46, 73, 109, 97, 103, 101, 71, 101, 116, 115, 32, 99, 97, 110, 116, 108, 101, 47, 99, 97, 110, 116, 108, 101, 108, 97, 119, 49, 53, 46, 73, 109, 97, 103, 101, 66, 97, 99, 107, 32, 99, 97, 110, 116, 108, 101, 47, 99, 97, 110, 116, 108, 101, 108, 97, 119, 49, 49, 46, 67, 104, 101, 99, 107, 84, 101, 108, 108, 115, 32, 99, 97, 110, 116, 108, 101, 47, 99, 97, 110, 116, 108, 101, 108, 97, 119, 48, 57, 46, 76, 105, 115, 116, 70, 105, 114, 115, 116, 32, 99, 97, 110, 116, 108, 101, 47, 99, 97, 110, 116, 108, 101, 108, 97, 119, 49, 48, 46, 70, 105, 116, 65, 108, 108, 32, 99, 97, 110, 116, 108, 101, 47, 99, 97, 110, 116, 108, 101, 108, 97, 119, 49, 48, 46, 70, 105, 116, 84, 101, 108, 108, 115, 32, 99, 97, 110, 116, 108, 101, 47, 99, 97, 110, 116, 108, 101, 108, 97, 119, 49, 49, 46, 67, 104, 101, 99, 107, 66, 117, 105, 108, 116, 32, 99, 97, 110, 116, 108, 101, 47, 99, 97, 110, 116, 108, 101, 108, 97, 119, 49, 54, 46, 82, 101, 115, 116, 111, 114, 101, 84, 101, 108, 108, 115, 32, 99, 97, 110, 116, 108, 101, 47, 99, 97, 110, 116, 108, 101, 108, 97, 119, 49, 54, 46, 82, 101, 115, 116, 111, 114, 101, 66, 97, 99, 107, 32, 99, 97, 110, 116, 108, 101, 47, 99, 97, 110, 116, 108, 101, 108, 97, 119, 49, 50, 46, 65, 108, 108, 111, 99, 80, 108, 97, 121, 115, 32, 99, 97, 110, 116, 108, 101, 47, 99, 97, 110, 116, 108, 101, 108, 97, 119, 49, 50, 46, 65, 108, 108, 111, 99, 82, 111, 111, 109, 32, 99, 97, 110, 116, 108, 101, 47, 99, 97, 110, 116, 108, 101, 108, 97, 119, 49, 51, 46, 82, 101, 115, 105, 122, 101, 80, 108, 97, 121, 115, 32, 99, 97, 110, 116, 108, 101, 47, 99, 97, 110, 116, 108, 101, 108, 97, 119, 49, 51, 46, 82, 101, 115, 105, 122, 101, 75, 101, 101, 112, 115, 32, 99, 97, 110, 116, 108, 101, 47, 99, 97, 110, 116, 108, 101, 108, 97, 119, 49, 52, 46, 72, 101, 97, 112, 79, 102, 32, 99, 97, 110, 116, 108, 101, 47, 99, 97, 110, 116, 108, 101, 108, 97, 119, 49, 52, 46, 72, 101, 97, 112, 67, 97, 108, 108, 115]
theorem headW : wordsSigns Try.prog.initOrder.toList = headA.map Char.ofNat :: headB.map Char.ofNat :: cutW.map Char.ofNat :: wordsSigns (headR.map Char.ofNat) := head_words (by kernel_rfl) (by kernel_rfl) (by kernel_rfl) (by kernel_rfl)
theorem hA : (headA.map Char.ofNat == "harness".toList) = true := by kernel_rfl
theorem hB : isSumSigns (headB.map Char.ofNat) = true := by kernel_rfl
theorem make : Try.prog.make = some .cut := make_head headW hA hB
theorem lifts : Try.prog.liftsFinal = false := lifts_head headW hA hB
theorem laysLater : Try.prog.laysLater = false := by kernel_rfl
theorem bearsReflect : Try.prog.bearsReflect = false := by kernel_rfl
theorem doorFits : Try.prog.doorFits [] = true := by kernel_rfl
theorem mayEnter : Try.prog.mayEnter = true := enter_head headW hA hB laysLater bearsReflect doorFits
theorem laidOut : laidOutB Try.prog = true := by kernel_rfl
end Go.Proofs.Ytenbpbnffnodhaa.Facts

/- Numbers as bytes, the lowest first: plain laws, no program. -/
namespace Go.Own
/-- The number of bytes, the lowest first. -/
def num : List UInt8 → Nat
  | [] => 0
  | b :: t => b.toNat + 256 * num t
theorem num_append (a b : List UInt8) : num (a ++ b) = num a + 256 ^ a.length * num b := by
  induction a with
  | nil => simp [num]
  | cons x t ih => simp only [List.cons_append, num, ih, List.length_cons, Nat.pow_succ]; rw [Nat.mul_add, ← Nat.mul_assoc, Nat.mul_comm 256 (256 ^ t.length)]; omega
theorem num_lt (a : List UInt8) : num a < 256 ^ a.length := by
  induction a with
  | nil => simp [num]
  | cons x t ih => simp only [num, List.length_cons, Nat.pow_succ]; have := x.toNat_lt; omega
theorem take_snoc (l : List UInt8) (k : Nat) (h : k < l.length) : l.take (k + 1) = l.take k ++ [l[k]] := List.take_succ_eq_append_getElem h
theorem num_snoc (l : List UInt8) (k : Nat) (h : k < l.length) : num (l.take (k + 1)) = num (l.take k) + 256 ^ k * l[k].toNat := by
  rw [take_snoc l k h, num_append]; simp [num]; rw [Nat.min_eq_left (by omega)]
theorem two_eight (k : Nat) : (2 : Nat) ^ (8 * k) = 256 ^ k := by rw [Nat.pow_mul]

theorem wrapU64 {n : Int} (h : 0 ≤ n) (h' : n < 18446744073709551616) : IntKind.u64.wrap n = n := by
  simp [IntKind.wrap, IntKind.bits, IntKind.signed]; omega
theorem wrapI64 {n : Int} (h : -9223372036854775808 ≤ n) (h' : n ≤ 9223372036854775807) : IntKind.i64.wrap n = n := by
  rw [IntKind.wrap_i64]; omega
theorem pow_le8 (k : Nat) (h : k < 8) : 256 * 256 ^ k ≤ 18446744073709551616 := by
  have : 256 ^ (k + 1) ≤ 256 ^ 8 := Nat.pow_le_pow_right (by decide) (by omega)
  rw [Nat.pow_succ] at this; omega
/-- 'v | x << 8 k' at a number v of k bytes. -/
theorem or_shl (v : Nat) (x : UInt8) (k : Nat) (hk : k < 8) (hv : v < 256 ^ k) :
    bits .or .u64 (v : Int) (IntKind.u64.wrap (IntKind.u64.wrap (x.toNat : Int) * 2 ^ (8 * k))) = ((v + 256 ^ k * x.toNat : Nat) : Int) := by
  have hx := x.toNat_lt
  have hp := pow_le8 k hk
  have h1 : x.toNat * 256 ^ k < 18446744073709551616 := by
    have : x.toNat * 256 ^ k ≤ 255 * 256 ^ k := Nat.mul_le_mul_right _ (by omega)
    have : 0 < 256 ^ k := Nat.pos_of_ne_zero (by simp)
    omega
  have e : (IntKind.u64.wrap (x.toNat : Int) * 2 ^ (8 * k)) = ((x.toNat * 256 ^ k : Nat) : Int) := by
    rw [wrapU64 (by omega) (by omega), ← two_eight]; simp
  rw [e, wrapU64 (by omega) (by omega), u64_or_nat _ _ (by omega) h1, Nat.or_comm, nat_join (8 * k), Nat.add_comm, Nat.mul_comm]
  · rw [two_eight]; exact Nat.mul_mod_left _ _
  · rw [two_eight]; exact hv

/-- The n lowest bytes of a number. -/
def low (v : Nat) : Nat → List UInt8
  | 0 => []
  | n + 1 => UInt8.ofNat v :: low (v / 256) n
theorem low_length (v n : Nat) : (low v n).length = n := by
  induction n generalizing v with
  | zero => rfl
  | succ n ih => simp [low, ih]
theorem low_snoc (v n : Nat) : low v (n + 1) = low v n ++ [UInt8.ofNat (v / 256 ^ n)] := by
  induction n generalizing v with
  | zero => simp [low]
  | succ n ih => rw [low, ih, low, List.cons_append, Nat.div_div_eq_div_mul, Nat.pow_succ, Nat.mul_comm]
theorem num_low (v n : Nat) : num (low v n) = v % 256 ^ n := by
  induction n generalizing v with
  | zero => simp [low, num, Nat.mod_one]
  | succ n ih => simp only [low, num, ih, Nat.pow_succ]; rw [Nat.mul_comm (256 ^ n) 256, Nat.mod_mul]; simp
end Go.Own

namespace Go.Proofs.Ytenbpbnffnodhaa
open Go Go.RowKit Go.Own
set_option linter.unusedVariables false

theorem info_u8 : Info Try.prog 5 (.int .u8 0) 1 1 := by unfold Info; kernel_rfl
def getV (l : List UInt8) (at_ n : Int) : Int := if at_ + n ≤ l.length then num ((l.drop at_.toNat).take n.toNat) else 0
def getOk (l : List UInt8) (at_ n : Int) : Bool := decide (at_ + n ≤ l.length)

set_option maxHeartbeats 1000000 in
theorem word_get (w : World) (a : Option Addr) (m c : Nat) (l : List UInt8) (at_ : Int) (n : Int) (h : Bs w a m c l)
    (h0 : 0 ≤ at_) (h1 : at_ ≤ 18446744073709551615) (hn0 : 0 ≤ n) (hn : n ≤ 8) :
    Calls Try.prog 225 #[.slice a m c, .int .u64 at_, .int .u64 n] w fun e w' =>
      e = .returned (.tuple #[.int .u64 (getV l at_ n), .bool (getOk l at_ n)]) ∧ w = w' := by
  have hl := h.len; have hc := Sl.cap h; have hr := Sl.room h; have hcell := h.at; clear h
  go_enter Try.func225, Try.ntmps225
  go_wp2
  · go_ret2
    exact ⟨rIB (by rw [getV, if_neg (by omega)]) (decF (by omega)), rfl⟩
  · obtain ⟨A, rfl⟩ : ∃ A : Nat, at_ = A := ⟨at_.toNat, by omega⟩
    obtain ⟨N, rfl⟩ : ∃ N : Nat, n = N := ⟨n.toNat, by omega⟩
    go_loop [9, 25] (fun v i => ∃ k : Nat, k ≤ N ∧ i = .int .u64 k ∧ v = .int .u64 (num ((l.drop A).take k) : Nat)) (fun _ i => N - (intOf i).toNat)
    case atStart => exact ⟨0, Nat.zero_le _, rfl, rfl⟩
    case round =>
      obtain ⟨k, hk, rfl, rfl⟩ := hrel
      by_cases hlt : k < N
      · obtain ⟨b, o, rfl, hx⟩ := hcell (A + k) (by omega)
        have hlen : k < (l.drop A).length := by rw [List.length_drop]; omega
        have hs := num_snoc (l.drop A) k hlen
        have hv : num ((l.drop A).take k) < 256 ^ k := by
          have := num_lt ((l.drop A).take k); rwa [List.length_take, Nat.min_eq_left (by omega)] at this
        have he : (l.drop A)[k] = l[A + k] := by rw [List.getElem_drop]
        rw [he, ← Int.ofNat_inj, ← or_shl _ _ k (by omega) hv] at hs
        have HS := Lib.hid hs
        clear hs he hv
        go_wp2
        refine ⟨⟨k + 1, by omega, by go_num, vI HS.out.symm⟩, by simp [intOf]; omega⟩
      · obtain rfl : k = N := by omega
        go_wp2
        go_ret2
        exact ⟨rIB (by rw [getV, if_pos (by omega)]; simp) (decT (by omega)), rfl⟩
  · go_ret2
    exact ⟨rIB (by rw [getV, if_neg (by omega)]) (decF (by omega)), rfl⟩

theorem word_Get (w : World) (a : Option Addr) (m c : Nat) (l : List UInt8) (at_ : Int) (h : Bs w a m c l) (h0 : 0 ≤ at_) (h1 : at_ ≤ 18446744073709551615) :
    Calls Try.prog 174 #[.slice a m c, .int .u64 at_] w fun e w' => e = .returned (.tuple #[.int .u64 (getV l at_ 8), .bool (getOk l at_ 8)]) ∧ w = w' := by
  have H := Lib.hid h; clear h
  go_enter Try.func174, Try.ntmps174
  go_wp2_with (go_at_call 225; refine (word_get _ _ _ _ l _ _ H.out h0 h1 (by decide) (by decide)).mono ?_; rintro e w' ⟨rfl, rfl⟩)
  go_ret2
  exact ⟨rfl, rfl⟩
set_option maxHeartbeats 1000000 in
theorem word_Put (w : World) (v : Int) (h0 : 0 ≤ v) (h1 : v ≤ 18446744073709551615) :
    Calls Try.prog 164 #[.int .u64 v] w (NewBs w (low v.toNat 8)) := by
  have hmk := run_mk1 (P := Try.prog) 31 5 _ _ Try.underlying31 info_u8 rfl 8 8 rfl (by decide) (by decide)
  go_enter Try.func164, Try.ntmps164
  go_wp2
  obtain ⟨V, rfl⟩ : ∃ V : Nat, v = V := ⟨v.toNat, by omega⟩
  have h0 : Row (w.alloc (.cells (List.replicate 8 (Value.int .u8 0)).toArray 5 (0, 0))) w.heap.size 5 (List.replicate 8 (Value.int .u8 0)) := Row.made _ _ _
  have H0 := Lib.hid h0; clear h0
  go_loopw [8] (fun i wr => ∃ k : Nat, k ≤ 8 ∧ i = .int .i64 k ∧ Row wr w.heap.size 5 ((low V k).map bv ++ List.replicate (8 - k) (.int .u8 0)) ∧ Below w.heap.size w wr) (fun i _ => 8 - (intOf i).toNat)
  case atStart => exact ⟨0, by omega, rfl, H0.out, (Below.refl _ _).alloc (Nat.le_refl _) _⟩
  case round =>
    obtain ⟨k, hk, rfl, hrow, hb⟩ := hrel
    by_cases hlt : k < 8
    · have hl : ((low V k).map bv).length = k := by rw [List.length_map, low_length]
      have hc : wr.cell? ⟨w.heap.size, k, none⟩ = some (.int .u8 0) := by
        rw [hrow.cell, List.getElem?_append_right (by omega), hl, Nat.sub_self, List.getElem?_replicate, if_pos (by omega)]
      have hf := hrow.frozen k
      have hr2 := hrow.set k (bv (UInt8.ofNat (V / 256 ^ k)))
      have hb2 := hb.setCell (p := ⟨w.heap.size, k, none⟩) (Nat.le_refl _) (bv (UInt8.ofNat (V / 256 ^ k)))
      have hset : ((low V k).map bv ++ List.replicate (8 - k) (Value.int .u8 0)).set k (bv (UInt8.ofNat (V / 256 ^ k))) = (low V (k + 1)).map bv ++ List.replicate (8 - (k + 1)) (.int .u8 0) := by
        rw [List.set_append_right _ _ (by omega), hl, Nat.sub_self, show 8 - k = (8 - (k + 1)) + 1 by omega, List.replicate_succ, List.set_cons_zero, low_snoc, List.map_append]; simp
      rw [hset] at hr2
      have hv : bv (UInt8.ofNat (V / 256 ^ k)) = .int .u8 ((V : Int) / 2 ^ (8 * k) % 256) := by
        rw [bv, show ((2 : Int) ^ (8 * k)) = ((256 ^ k : Nat) : Int) from by rw [← two_eight]; simp, ← Int.natCast_ediv]; simp
      rw [hv] at hr2 hb2
      have HR := Lib.hid hr2; have HB := Lib.hid hb2
      clear hr2 hb2 hset hv hl hrow hb
      go_wp2
      exact ⟨⟨k + 1, by omega, by go_num, HR.out, HB.out⟩, by simp [intOf]; omega⟩
    · obtain rfl : k = 8 := by omega
      go_wp2
      go_ret
      exact ⟨_, _, _, rfl, Bs.of_row hrow (by rw [low_length]) (Nat.le_refl _) (by decide), fun p hp => by cases hp; exact Nat.le_refl _, hb⟩

end Go.Proofs.Ytenbpbnffnodhaa

namespace Go.Proofs.Ytenbpbnffnodhaa
open Go Go.RowKit Go.Own
set_option linter.unusedVariables false
theorem hmixed : Try.prog.follows .mixedOrders = true := by kernel_rfl

end Go.Proofs.Ytenbpbnffnodhaa

/- 'append(v, make([]T, n)...)'. The first law was printed by the kit's print.sh for this seat. -/
namespace Go.Own
open Go Go.RowKit
section
variable {P : Program}
theorem add_plain (g j : Nat) : (⟨g, 0, none⟩ : Addr).add j = ⟨g, j, none⟩ := by unfold Addr.add; split <;> simp_all
theorem setCells_far {g : Nat} : ∀ (vs : List Value) (o : Nat) {w : World} (k : Nat), k ≠ g → (w.setCells g o vs).heap[k]? = w.heap[k]?
  | [], _, _, _, _ => rfl
  | v :: r, o, w, k, hk => by
    rw [World.setCells, setCells_far r (o + 1) k hk]
    exact Below.heap_setCell w ⟨g, o, none⟩ v k hk
theorem blk_frozen {w : World} {g : Nat} {t : TypeId} {cs : Array Value} (h : w.heap[g]? = some (.cells cs t (0, 0))) (i : Nat) : w.frozen? ⟨g, i, none⟩ = false := by simp [World.frozen?, h]
theorem blk_set {w : World} {g : Nat} {t : TypeId} {cs : Array Value} (h : w.heap[g]? = some (.cells cs t (0, 0))) (i : Nat) (u : Value) : (w.setCell ⟨g, i, none⟩ u).heap[g]? = some (.cells (cs.setIfInBounds i u) t (0, 0)) := by
  simp [World.setCell, Array.getElem?_modify, h]
theorem setCells_same (g : Nat) : ∀ (vs : List Value) (o : Nat) (w : World), (w.setCells g o vs).os = w.os ∧ (w.setCells g o vs).tape = w.tape ∧ (w.setCells g o vs).output = w.output ∧ (w.setCells g o vs).heap.size = w.heap.size
  | [], _, _ => ⟨rfl, rfl, rfl, rfl⟩
  | v :: r, o, w => by
    obtain ⟨h1, h2, h3, h4⟩ := setCells_same g r (o + 1) (w.setCell ⟨g, o, none⟩ v)
    rw [World.setCells]
    exact ⟨h1, h2, h3, by rw [h4]; simp [World.setCell]⟩
theorem setCells_row {g : Nat} {e : TypeId} : ∀ (vs : List Value) (o : Nat) (w : World) (cur : Array Value), w.heap[g]? = some (.cells cur e (0, 0)) → o + vs.length ≤ cur.size →
    ∃ cur', (w.setCells g o vs).heap[g]? = some (.cells cur' e (0, 0)) ∧ cur'.size = cur.size ∧ cur'.toList = cur.toList.take o ++ vs ++ cur.toList.drop (o + vs.length)
  | [], o, w, cur, h, _ => ⟨cur, h, rfl, by simp⟩
  | v :: r, o, w, cur, h, hl => by
    have h2 := blk_set h o v
    simp only [List.length_cons] at hl
    obtain ⟨cur', h3, h4, h5⟩ := setCells_row r (o + 1) (w.setCell ⟨g, o, none⟩ v) _ h2 (by simp; omega)
    refine ⟨cur', h3, by rw [h4]; simp, ?_⟩
    rw [h5, Array.toList_setIfInBounds]
    have ho : o < cur.toList.length := by rw [Array.length_toList]; omega
    rw [List.take_set, List.drop_set_of_lt (by omega)]
    simp only [List.length_cons]
    rw [show o + 1 + r.length = o + (r.length + 1) by omega]
    congr 1
    rw [List.take_succ_eq_append_getElem ho, List.set_append_right _ _ (by rw [List.length_take]; omega)]
    have ho' : o < cur.size := by omega
    simp [Nat.min_eq_left (Nat.le_of_lt ho')]
theorem run_append_zeros (w : World) (base : Nat) (t ti ty e : TypeId) (i : TypeInfo) (z : Value) (size bytes : Nat) (ht : P.underlying t = some (.slice e)) {k : IntKind} (hti : P.underlying ti = some (.int k)) (hi : P.info? e = some i) (hz : i.zero = some z)
    (hsize : i.size = size) (hby : i.bytes = bytes) (hzs : z.cells.size = size) (hsz : 0 < size) (hb0 : 0 < bytes)
    (v : Value) (n : Nat) (xs : List Value) (hown : w.ownsRow base e size v n xs) (kx : IntKind) (m : Nat) (h1 : ∀ u ∈ (Builtin.zeroCells z.cells m).toList, u.oneCell' = true)
    (hbytes : (n + m) * bytes ≤ 140737488355328) (hbase : base ≤ w.heap.size) :
    ∃ v' w', (Builtin.append_ #[t, ti] ty #[v, .int kx m]).run P w = .ok v' w' ∧ w'.ownsRow base e size v' (n + m) (xs ++ (Builtin.zeroCells z.cells m).toList) ∧ w.grownBy w' v.ownBlock ∧
      (v'.ownBlock = v.ownBlock ∨ v'.ownBlock = some w.heap.size) := by
  subst hsize
  subst hby
  have hle : n + m ≤ 140737488355328 := Nat.le_trans (Nat.le_mul_of_pos_right _ hb0) hbytes
  have h63 : n + m ≤ maxLen := by simp only [maxLen]; omega
  have hw : IntKind.i64.wrap (m : Int) = m := by rw [IntKind.wrap_i64]; omega
  have hw0 : IntKind.i64.wrap 0 = 0 := by rw [IntKind.wrap_i64]; rfl
  have hneg : ¬ ((m : Int) < 0) := by omega
  have hmb : m * i.bytes ≤ 140737488355328 := Nat.le_trans (Nat.mul_le_mul_right _ (Nat.le_add_left m n)) hbytes
  have hbig : ¬ (281474976710656 < (m : Int) * (i.bytes : Int)) := by
    rw [← Int.natCast_mul]
    omega
  have hsn : i.size ≠ 0 := by omega
  obtain ⟨news, hnews⟩ : ∃ news, news = (Builtin.zeroCells z.cells m).toList := ⟨_, rfl⟩
  rw [← hnews] at h1 ⊢
  have hl : news.length = m * i.size := by rw [hnews, Array.length_toList, size_zeroCells, hzs]
  have hna : Builtin.zeroCells z.cells m = news.toArray := by rw [hnews]
  have hlen : (xs ++ news).length = (n + m) * i.size := by rw [List.length_append, hown.1, hl, Nat.add_mul]
  have hnil : m = 0 → news = [] := fun h => List.eq_nil_of_length_eq_zero (by rw [hl, h, Nat.zero_mul])
  have grown : ∀ (old : Nat), old < n + m → ∀ (row : Option Nat),
      (w.drew.alloc (.cells (xs.toArray ++ news.toArray ++ Builtin.zeroCells z.cells (grownCap w (n + m) old e - (n + m))) e)).ownsRow base e i.size
        (.slice (some ⟨w.heap.size, 0, none⟩) (n + m) (grownCap w (n + m) old e)) (n + m) (xs ++ news) ∧
      w.grownBy (w.drew.alloc (.cells (xs.toArray ++ news.toArray ++ Builtin.zeroCells z.cells (grownCap w (n + m) old e - (n + m))) e)) row := by
    intro old ho row
    have hge := grownCap_ge w (n + m) old e
    have hcm : grownCap w (n + m) old e ≤ maxLen := grownCap_le_maxLen w (n + m) old e h63
    refine ⟨⟨hlen, .inr ⟨w.heap.size, _, _, rfl, hbase, heap_alloc_new w.drew _, hge, hcm, ?_, ?_⟩⟩, ⟨rfl, rfl, rfl, by simp, fun k hk _ => heap_alloc_old w.drew _ hk⟩⟩
    · simp only [Array.size_append, List.size_toArray, size_zeroCells, hzs, hown.1, hl, ← Nat.add_mul]
      congr 1
      omega
    · simp only [Array.toList_append, List.append_assoc]
      rw [← List.append_assoc, ← hlen]
      exact List.take_left
  have runs : ∀ (A : Option Addr) (cap : Nat), cap < n + m → (Builtin.firstCells i.size n (.slice A n cap)).run P w.drew = .ok xs.toArray w.drew → (Builtin.append_ #[t, ti] ty #[.slice A n cap, .int kx m]).run P w =
      .ok (.slice (some ⟨w.heap.size, 0, none⟩) (n + m) (grownCap w (n + m) cap e)) (w.drew.alloc (.cells (xs.toArray ++ news.toArray ++ Builtin.zeroCells z.cells (grownCap w (n + m) cap e - (n + m))) e)) := by
    intro A cap hcap hfo
    have hn : ¬ (n + m ≤ cap) := by omega
    have h63' : ¬ (9223372036854775807 < ((n : Int) + (m : Int))) := by omega
    have hfit := growslice_fits hcap hbytes
    have h48' : ¬ (281474976710656 < Builtin.nextslicecap (n + m) cap * i.bytes) := by omega
    by_cases hm : m = 0
    · have hnl := hnil hm
      subst hm
      rw [hnl]
      simp only [Nat.add_zero] at hn h63' h48' ⊢
      have h63'' : ¬ (9223372036854775807 < (n : Int)) := by omega
      simp [Builtin.append_, run_underlying ht, run_underlying hti, sizeOf, typeInfo, zeroValue, hi, hz, asInt, asIntOf, hw0, hn, h63'', h48', Question.forced, hfo, newRow, grownCap]
    · have hmz : ¬ (m * i.size = 0) := Nat.mul_ne_zero hm hsn
      simp [Builtin.append_, run_underlying ht, run_underlying hti, sizeOf, typeInfo, zeroValue, hi, hz, asInt, asIntOf, hw, hneg, hbig, hn, h63', h48', Question.forced, hfo, newRow, grownCap, hmz, hna]
      congr 2
      apply Array.ext'
      simp [List.append_assoc]
  rcases hown.2 with ⟨rfl, rfl⟩ | ⟨g, cap, cur, rfl, hbg, hg, hnc, hcm, hcs, htake⟩
  · have hx : xs = [] := List.eq_nil_of_length_eq_zero (by simpa using hown.1)
    subst hx
    by_cases hm : m = 0
    · have hnl := hnil hm
      subst hm
      rw [hnl]
      refine ⟨.slice none 0 0, w, ?_, World.ownsRow_nil w base e i.size, ⟨rfl, rfl, rfl, Nat.le_refl _, fun _ _ _ => rfl⟩, Or.inl rfl⟩
      simp [Builtin.append_, run_underlying ht, run_underlying hti, sizeOf, typeInfo, hi, asInt, asIntOf, hw0]
    · have hgr := grown 0 (by omega) (Value.ownBlock (.slice none 0 0))
      exact ⟨_, _, runs none 0 (by omega) (by simp [Builtin.firstCells]), hgr.1, hgr.2, Or.inr rfl⟩
  · by_cases hroom : n + m ≤ cap
    · have hfit : n * i.size + news.length ≤ cur.size := by rw [hl, hcs, ← Nat.add_mul]; exact Nat.mul_le_mul_right _ hroom
      obtain ⟨cur', h3, h4, h5⟩ := setCells_row news (n * i.size) w cur hg hfit
      obtain ⟨s1, s2, s3, s4⟩ := setCells_same g news (n * i.size) w
      have hst := run_storeCells_cells (P := P) g (n * i.size) news 0 w (fun j hj => by rw [cell_of_row w g _ cur e (0, 0) hg]; simp; omega) (fun j _ => blk_frozen hg _) h1
      simp only [Nat.add_zero] at hst
      refine ⟨.slice (some ⟨g, 0, none⟩) (n + m) cap, w.setCells g (n * i.size) news, ?_, ⟨hlen, .inr ⟨g, cap, cur', rfl, hbg, h3, hroom, hcm, by rw [h4, hcs], ?_⟩⟩, ⟨s1, s2, s3, by rw [s4]; exact Nat.le_refl _, fun k _ hk => setCells_far news _ k (fun e => hk (by simp [Value.ownBlock, e]))⟩, Or.inl rfl⟩
      · by_cases hm : m = 0
        · have hnl := hnil hm
          subst hm
          rw [hnl] at hst ⊢
          simp [Builtin.append_, run_underlying ht, run_underlying hti, sizeOf, typeInfo, hi, asInt, asIntOf, hw0, hnc, add_plain, hst]
        · have hmz : ¬ (m * i.size = 0) := Nat.mul_ne_zero hm hsn
          simp [Builtin.append_, run_underlying ht, run_underlying hti, sizeOf, typeInfo, zeroValue, hi, hz, asInt, asIntOf, hw, hneg, hbig, hroom, hmz, hna, add_plain, hst]
      · rw [h5]
        have h6 : cur.toList.take (n * i.size) = xs := htake
        rw [h6, ← hlen]
        exact List.take_left
    · have holds : ∀ j u, xs[j]? = some u → w.cell? ((⟨g, 0, none⟩ : Addr).add j) = some u := hown.cells (g := g) rfl
      have hgr := grown cap (by omega) (Value.ownBlock (.slice (some ⟨g, 0, none⟩) n cap))
      exact ⟨_, _, runs (some ⟨g, 0, none⟩) cap (by omega) (run_firstCells_some (P := P) w.drew i.size n _ n cap xs hown.1 (by simpa using holds)), hgr.1, hgr.2, Or.inr rfl⟩
end
theorem zeroCells_one (z : Value) (n : Nat) : (Builtin.zeroCells #[z] n).toList = List.replicate n z := by
  have : Builtin.zeroCells #[z] n = (List.replicate n z).toArray := by
    unfold Builtin.zeroCells
    apply Array.ext
    · simp
    · intro i h1 h2; simp [Nat.mod_one]
  rw [this]
end Go.Own

/- A region that draws its order, with the world at hand known exactly: reads are taken at once, calls one by one. -/
namespace Go.Own
open Go Go.RowKit
theorem own_base {w : World} {B B' z n : Nat} {e : TypeId} {v : Value} {l : List Value} (h : w.ownsRow B e z v n l) (hb : B' ≤ B) : w.ownsRow B' e z v n l := by
  obtain ⟨h1, h2⟩ := h
  refine ⟨h1, ?_⟩
  rcases h2 with h2 | ⟨g, cap, cur, a0, a1, a2⟩
  · exact .inl h2
  · exact .inr ⟨g, cap, cur, a0, Nat.le_trans hb a1, a2⟩
theorem Row.drew {w : World} {b : Nat} {e : TypeId} {l : List Value} (h : Row w b e l) : Row w.drew b e l := h
theorem Sl.drew {w : World} {a : Option Addr} {n c z : Nat} {l : List Value} (h : Sl w a n c z l) : Sl w.drew a n c z l := ⟨h.len, h.cap, h.room, h.nilcap, h.cells⟩
theorem Bs.drew {w : World} {a : Option Addr} {n c : Nat} {l : List UInt8} (h : Bs w a n c l) : Bs w.drew a n c l := Sl.drew h
theorem flow_step {F : Nat → Prop} {W0 w w' : World} {X : Prop} (kk : Keep F W0 w) (kp : Keep F w w') (h : Keep F W0 w' → X) : Keep F w w' ∧ X := ⟨kp, h (kk.trans kp)⟩
/-- What is left of the region goes well from the world W; the reads are to yield in every world that keeps W outside F. -/
def FlowE (P : Program) (ops : List Oper) (Q : Exit → Act → World → Prop) (F : Nat → Prop) (fuel : Nat) (listed : Array Bool) (a : Act) (W : World) : Prop :=
  PanicsSame Q ∧ wpAnyH P .any ops.toArray Q (Keep F W) fuel listed a W
section
variable {P : Program} {ops : List Oper} {Q : Exit → Act → World → Prop} {F : Nat → Prop} {fuel : Nat} {listed : Array Bool} {a a' : Act} {W : World}
theorem flowe_begin {id : Nat} {l : List Oper} (hm : P.follows .mixedOrders = true) (n : Nat) (hn : l.length = n) (hq : PanicsSame Q) (h : PanicsSame Q → FlowE P l Q F n (List.replicate n false).toArray a W.drew) : (Code.region id l.toArray true).wp P Q a W := by
  subst hn
  refine wp_region_held (S := Keep F W.drew) hm ?_
  have := (h hq).2
  simpa using this
theorem flowe_take (i : Nat) {oi : Oper} {v : Value} (hp : PanicsSame Q) (hi : (ops.drop i).head? = some oi) (hc : (Region.noSelect ops.toArray && Region.free .any ops.toArray listed i && (Region.ready .any ops.toArray listed).contains i) = true)
    (hw : Region.wanted oi (yielded ops.toArray a.tmps) = true) (hrun : ∀ w, Keep F W w → (execOp a.eval oi).run P w = .ok (.value v) w) (ha : a.put oi.dst v = a')
    (h : FlowE P ops Q F fuel (listed.setIfInBounds i true) a' W) : FlowE P ops Q F (fuel + 1) listed a W := by
  subst ha
  simp only [Bool.and_eq_true] at hc
  exact ⟨hp, wpAnyH_take (at_of hi) hc.1.1 hc.1.2 hc.2 (fun c a' w' q => hp c _ _ _ (put_defers _ _ _) q) (.inl ⟨hw, fun w' k' => hrun w' k'⟩) (Keep.refl _ _) h.2⟩
theorem flowe_one (i : Nat) {oi : Oper} (hp : PanicsSame Q) (hi : (ops.drop i).head? = some oi) (hr : Region.ready .any ops.toArray listed = [i]) (hw : Region.wanted oi (yielded ops.toArray a.tmps) = true)
    (h : oi.wp P a W (fun a' w' => Keep F W w' ∧ FlowE P ops Q F fuel (listed.setIfInBounds i true) a' w') Q) : FlowE P ops Q F (fuel + 1) listed a W :=
  ⟨hp, wpAnyH_all hr (by simp) fun j hj => by
    obtain rfl : j = i := by simpa using hj
    refine wpOp_mono (K := fun a' w' => Keep F W w' ∧ FlowE P ops Q F fuel (listed.setIfInBounds j true) a' w') (fun a' w' h' => ⟨h'.1, wpAnyH_weak (fun x hx => h'.1.trans hx) _ _ _ _ h'.2.2⟩) ?_
    unfold wpOp
    simp only [at_of hi, hw, if_true]
    exact .inl h⟩
theorem flowe_done (hp : PanicsSame Q) (hr : Region.ready .any ops.toArray listed = []) (h : Q .normal a W) : FlowE P ops Q F fuel listed a W :=
  ⟨hp, wpAnyH_done hr h fuel⟩
end
end Go.Own

/- Arenas in memory: a pointer's block and the block of its bytes; and what reading and writing do to the bytes, in plain words. -/
namespace Go.Own
open Go Go.RowKit
/-- An arena: base, capacity, bytes. -/
structure Ar where
  base : Nat
  cap : Nat
  b : List UInt8
/-- Bytes laid at a place. -/
def lay (l : List UInt8) (i : Nat) (b : List UInt8) : List UInt8 := l.take i ++ b ++ l.drop (i + b.length)
theorem lay_length (l b : List UInt8) (i : Nat) (h : i + b.length ≤ l.length) : (lay l i b).length = l.length := by
  unfold lay; simp only [List.length_append, List.length_take, List.length_drop]; omega
/-- Of the block p an arena is told: base, capacity, and v, the slice of its bytes. -/
structure ArAt (T e : TypeId) (w : World) (p : Nat) (A : Ar) (v : Value) : Prop where
  row : Row w p T [.int .u64 A.base, .int .i64 A.cap, v]
  own : w.ownsRow 0 e 1 v A.b.length (A.b.map bv)
  hbase : A.base ≤ 4611686018427387904
  hmod : A.base % 16 = 0
  hcap : A.cap ≤ 16384
  hmin : 1024 ≤ A.cap
  hlen : A.b.length ≤ A.cap
/-- The blocks of an arena. -/
def arF (p : Nat) (v : Value) (k : Nat) : Prop := k = p ∨ v.ownBlock = some k
theorem own_block_lt {w : World} {base z n : Nat} {e : TypeId} {v : Value} {l : List Value} (h : w.ownsRow base e z v n l) {g : Nat} (hg : v.ownBlock = some g) : base ≤ g ∧ g < w.heap.size := h.lt g hg
theorem own_kept {F : Nat → Prop} {w w' : World} {base z n : Nat} {e : TypeId} {v : Value} {l : List Value} (h : w.ownsRow base e z v n l) (k : Keep F w w') (hf : ∀ g, v.ownBlock = some g → ¬ F g) : w'.ownsRow base e z v n l := by
  obtain ⟨h1, h2⟩ := h
  refine ⟨h1, ?_⟩
  rcases h2 with h2 | ⟨g, cap, cur, rfl, a1, a2, a3⟩
  · exact .inl h2
  · exact .inr ⟨g, cap, cur, rfl, a1, (k.block g (Array.getElem?_eq_some_iff.1 a2).1 (hf g rfl)).trans a2, a3⟩
theorem ArAt.kept {T e : TypeId} {F : Nat → Prop} {w w' : World} {p : Nat} {A : Ar} {v : Value} (h : ArAt T e w p A v) (k : Keep F w w') (hf : ∀ x, arF p v x → ¬ F x) : ArAt T e w' p A v :=
  ⟨h.row.keep k (hf p (.inl rfl)), own_kept h.own k (fun g hg => hf g (.inr hg)), h.hbase, h.hmod, h.hcap, h.hmin, h.hlen⟩
theorem ArAt.below {T e : TypeId} {w w' : World} {p : Nat} {A : Ar} {v : Value} (h : ArAt T e w p A v) (k : Below w.heap.size w w') : ArAt T e w' p A v :=
  h.kept (F := fun _ => False) (.of_below k) fun _ _ h => h
theorem ArAt.drew {T e : TypeId} {w : World} {p : Nat} {A : Ar} {v : Value} (h : ArAt T e w p A v) : ArAt T e w.drew p A v := ⟨h.row, h.own, h.hbase, h.hmod, h.hcap, h.hmin, h.hlen⟩
theorem ArAt.drewN {T e : TypeId} {w : World} {p : Nat} {A : Ar} {v : Value} (h : ArAt T e w p A v) (n : Nat) : ArAt T e (w.drewN n) p A v := ⟨h.row, h.own, h.hbase, h.hmod, h.hcap, h.hmin, h.hlen⟩
theorem Keep.drewN {F : Nat → Prop} {a w : World} (h : Keep F a w) (n : Nat) : Keep F a (w.drewN n) := ⟨h.os, h.tape, h.output, h.size, h.block⟩
theorem below_drewN {B : Nat} {a w : World} (h : Below B a w) (n : Nat) : Below B a (w.drewN n) := ⟨h.os, h.tape, h.output, h.size, h.block⟩
theorem ArAt.lt {T e : TypeId} {w : World} {p : Nat} {A : Ar} {v : Value} (h : ArAt T e w p A v) {k : Nat} (hk : arF p v k) : k < w.heap.size := by
  rcases hk with rfl | hk
  · exact h.row.lt
  · exact (own_block_lt h.own hk).2
/-- The bytes' slice as it stands. -/
theorem ArAt.form {T e : TypeId} {w : World} {p : Nat} {A : Ar} {v : Value} (h : ArAt T e w p A v) :
    ∃ a c, v = .slice a A.b.length c ∧ Bs w a A.b.length c A.b ∧ (∀ q, a = some q → v.ownBlock = some q.block) ∧ c ≤ 9223372036854775807 := by
  have h1 := h.own
  obtain ⟨a, c, rfl, _, hs⟩ := Sl.of_owned h1
  refine ⟨a, c, rfl, hs, fun q hq => ?_, hs.room⟩
  obtain ⟨_, h2⟩ := h1
  rcases h2 with ⟨h2, _⟩ | ⟨g, cap, cur, h2, _⟩
  · injection h2 with e1; rw [e1] at hq; cases hq
  · injection h2 with e1; rw [e1] at hq; cases hq; rw [e1]; rfl
theorem ArAt.apart {T e : TypeId} {w : World} {p : Nat} {A : Ar} {v : Value} (hne : e ≠ T) (h : ArAt T e w p A v) : ¬ v.ownBlock = some p := by
  intro hv
  obtain ⟨_, h2⟩ := h.own
  rcases h2 with ⟨rfl, _⟩ | ⟨g, cap, cur, rfl, _, a2, _⟩
  · cases hv
  · have h1 := h.row
    obtain rfl : g = p := by simpa [Value.ownBlock] using hv
    unfold Row at h1
    rw [a2] at h1
    simp only [Option.some.injEq, Obj.cells.injEq] at h1
    exact hne h1.2.1
/-- A place in the bytes. -/
theorem ArAt.at_ {T e : TypeId} {w : World} {p : Nat} {A : Ar} {a : Option Addr} {n c : Nat} (h : ArAt T e w p A (.slice a n c)) (i m : Nat) (hi : i + m ≤ A.b.length) (hm : 0 < m) :
    ∃ g, a = some ⟨g, 0, none⟩ := by
  obtain ⟨_, h2⟩ := h.own
  rcases h2 with ⟨h2, h3⟩ | ⟨g, cap, cur, h2, _⟩
  · rw [h3] at hi; simp at hi; omega
  · cases h2; exact ⟨g, rfl⟩
theorem setRow_keep {w : World} {g : Nat} {t : TypeId} {old : Array Value} (c : Array Value) (hg : w.heap[g]? = some (.cells old t (0, 0))) : Keep (· = g) w (w.setRow g c) :=
  ⟨rfl, rfl, rfl, by simp, fun k _ hk => setRow_other w g k c hk⟩
/-- Cells laid into a row of one's own. -/
theorem own_splice {w : World} {base n : Nat} {e : TypeId} {g cap : Nat} {l : List Value} (h : w.ownsRow base e 1 (.slice (some ⟨g, 0, none⟩) n cap) n l) (o : Nat) (cs : List Value) (hfit : o + cs.length ≤ n) :
    ∃ cur : Array Value, w.heap[g]? = some (.cells cur e (0, 0)) ∧ o + cs.length ≤ cur.size ∧
      (w.setRow g (cur.toList.take o ++ cs ++ cur.toList.drop (o + cs.length)).toArray).ownsRow base e 1 (.slice (some ⟨g, 0, none⟩) n cap) n (l.take o ++ cs ++ l.drop (o + cs.length)) := by
  obtain ⟨h1, h2⟩ := h
  rcases h2 with ⟨h2, _⟩ | ⟨g', cap', cur, h2, a1, a2, a3, a4, a5, a6⟩
  · cases h2
  · cases h2
    simp only [Nat.mul_one] at h1 a5 a6
    refine ⟨cur, a2, by omega, ?_, .inr ⟨g, cap, _, rfl, a1, setRow_heap w g cur _ e (0, 0) a2, a3, a4, ?_, ?_⟩⟩
    · simp only [List.length_append, List.length_take, List.length_drop, h1, Nat.mul_one]; omega
    · simp only [List.size_toArray, List.length_append, List.length_take, List.length_drop, Array.length_toList, Nat.mul_one]; omega
    · simp only [Nat.mul_one]
      rw [← a6]
      have hl : cur.toList.length = cur.size := Array.length_toList
      apply List.ext_getElem?
      intro i
      simp only [List.getElem?_take, List.getElem?_append, List.length_append, List.length_take, List.getElem?_drop, hl]
      grind
theorem map_lay (l b : List UInt8) (i : Nat) : (lay l i b).map bv = (l.map bv).take i ++ b.map bv ++ (l.map bv).drop (i + (b.map bv).length) := by
  unfold lay; simp [List.map_take, List.map_drop]
/-- 'copy(to, b)', 'to' a piece of the arena. -/
theorem ArAt.copied {T e : TypeId} {w : World} {p g : Nat} {A : Ar} {n cap : Nat} (hne : e ≠ T) (h : ArAt T e w p A (.slice (some ⟨g, 0, none⟩) n cap)) (i : Nat) (b : List UInt8) (hi : i + b.length ≤ A.b.length) :
    ∃ cur : Array Value, w.heap[g]? = some (.cells cur e (0, 0)) ∧ i + b.length ≤ cur.size ∧
      ArAt T e (w.setRow g (cur.toList.take i ++ b.map bv ++ cur.toList.drop (i + (b.map bv).length)).toArray) p { A with b := lay A.b i b } (.slice (some ⟨g, 0, none⟩) n cap) ∧
      Keep (· = g) w (w.setRow g (cur.toList.take i ++ b.map bv ++ cur.toList.drop (i + (b.map bv).length)).toArray) := by
  have hn : n = A.b.length := by
    obtain ⟨a, c, hv, _⟩ := h.form
    cases hv; rfl
  subst hn
  obtain ⟨cur, hg, hc, ho⟩ := own_splice h.own i (b.map bv) (by simpa using hi)
  have hk := setRow_keep (cur.toList.take i ++ b.map bv ++ cur.toList.drop (i + (b.map bv).length)).toArray hg
  have hpg : p ≠ g := by
    rintro rfl
    have h1 := h.row
    unfold Row at h1
    rw [hg] at h1
    simp only [Option.some.injEq, Obj.cells.injEq] at h1
    exact hne h1.2.1
  have hll := lay_length A.b b i hi
  refine ⟨cur, hg, by simpa using hc, ⟨h.row.keep hk hpg, ?_, h.hbase, h.hmod, h.hcap, h.hmin, by simpa [hll] using h.hlen⟩, hk⟩
  exact ownsRow_map ho hll.symm (map_lay A.b b i).symm
/-- 'copy(to, b)' at a walk's list. -/
theorem copy_at {P : Program} {ops : Array Oper} {rest : List Oper} {o : Oper} {a : Act} {w : World} {Q : Exit → Act → World → Prop} (hgd : o.guard = none) (x y : Operand) (t e T : TypeId)
    (ho : o.op = .call { callee := .builtin .copy, args := #[x, y], argTypes := #[t, t] }) (hu : P.underlying t = some (.slice e)) (hs : (P.info? e).map (·.size) = some 1) (hne : e ≠ T)
    {p g n cap : Nat} {A : Ar} (h : ArAt T e w p A (.slice (some ⟨g, 0, none⟩) n cap)) (i dLen dCap : Nat) (hx : a.eval x = .slice (some ⟨g, i, none⟩) dLen dCap)
    (ad : Option Addr) (m c : Nat) (b : List UInt8) (hy : a.eval y = .slice ad m c) (hb : Bs w ad m c b) (hm : m = dLen) (h0 : 0 < m) (hi : i + m ≤ A.b.length)
    (hk : ∀ w', ArAt T e w' p { A with b := lay A.b i b } (.slice (some ⟨g, 0, none⟩) n cap) → Keep (· = g) w w' → wpList P ops Q rest (a.put o.dst (.int .i64 b.length)) w') : wpList P ops Q (o :: rest) a w := by
  have hbl := hb.len
  obtain ⟨b0, o0, rfl, _⟩ := Sl.some hb (by omega) (by decide)
  obtain ⟨cur, hg, hc, h1, h2⟩ := h.copied hne i b (by omega)
  have hrun := run_copy_row (P := P) w t t o.type e g i dLen dCap ⟨b0, o0, none⟩ m c cur e (b.map bv) hu hs hg (by show _ = min m dLen; rw [← hm, Nat.min_self, List.length_map, hbl]) (fun j v hj => by
    obtain ⟨b1, o1, e1, hc1⟩ := Sl.cells hb j v hj
    cases e1
    have : (⟨b0, o0, none⟩ : Addr).add j = ⟨b0, o0 + j, none⟩ := by unfold Addr.add; split <;> simp_all
    rw [this]; exact hc1) (by simpa using hc) (bv_one b)
  refine wpList_plain hgd fun K hK => ?_
  unfold Oper.wp execOp
  simp only [ho, resolve, invoke, builtin, Sem.run_bind, Sem.run_pure, Result.andThen_ok, List.map_toArray, List.map_cons, List.map_nil, hx, hy, hrun]
  refine hK _ _ ?_
  have := hk _ h1 h2
  simpa [goInt] using this
theorem copy_none {P : Program} {ops : Array Oper} {rest : List Oper} {o : Oper} {a : Act} {w : World} {Q : Exit → Act → World → Prop} (hgd : o.guard = none) (x y : Operand) (t e : TypeId)
    (ho : o.op = .call { callee := .builtin .copy, args := #[x, y], argTypes := #[t, t] }) (hu : P.underlying t = some (.slice e)) (hs : (P.info? e).map (·.size) = some 1)
    (d : Option Addr) (dLen dCap : Nat) (hx : a.eval x = .slice d dLen dCap) (ad : Option Addr) (m c : Nat) (hy : a.eval y = .slice ad m c) (h0 : m = 0 ∨ dLen = 0)
    (hk : wpList P ops Q rest (a.put o.dst (.int .i64 0)) w) : wpList P ops Q (o :: rest) a w := by
  have hrun := run_copy_none (P := P) w t t o.type e d ad dLen dCap m c hu hs (by rcases h0 with h | h <;> simp [h])
  refine wpList_plain hgd fun K hK => ?_
  unfold Oper.wp execOp
  simp only [ho, resolve, invoke, builtin, Sem.run_bind, Sem.run_pure, Result.andThen_ok, List.map_toArray, List.map_cons, List.map_nil, hx, hy, hrun]
  exact hK _ _ (by simpa [goInt] using hk)
/-- 'append(s, make([]T, m)...)': just that row turns. -/
theorem app_zeros_own {P : Program} {w : World} {ops : Array Oper} {rest : List Oper} {o : Oper} {a : Act} {Q : Exit → Act → World → Prop} (hgd : Region.wanted o (yielded ops a.tmps) = true) (s x : Operand) (t ti : TypeId)
    (ho : o.op = .call { callee := .builtin .append, args := #[s, x], argTypes := #[t, ti] })
    (base : Nat) (e : TypeId) (z : Value) (bytes : Nat) (ht : P.underlying t = some (.slice e)) {k : IntKind} (hti : P.underlying ti = some (.int k)) (hi : Info P e z 1 bytes) (hz : z.cells = #[z]) (hz1 : z.oneCell' = true) (hb0 : 0 < bytes)
    (v : Value) (n : Nat) (xs : List Value) (hs : a.eval s = v) (hown : w.ownsRow base e 1 v n xs)
    (kx : IntKind) (mi : Int) (m : Nat) (hm : mi = m) (hx : a.eval x = .int kx mi)
    (hbytes : (n + m) * bytes ≤ 140737488355328) (hbase : base ≤ w.heap.size)
    (h : ∀ v' w', w'.ownsRow base e 1 v' (n + m) (xs ++ List.replicate m z) → Keep (fun k => v.ownBlock = some k) w w' → (v'.ownBlock = v.ownBlock ∨ v'.ownBlock = some w.heap.size) → wpList P ops Q rest (a.put o.dst v') w') : wpList P ops Q (o :: rest) a w := by
  refine at_wanted hgd fun K hK => ?_
  obtain ⟨i, hi, iz, his, hib⟩ := hi.parts
  subst hm
  have hr := run_append_zeros (P := P) w base t ti o.type e i z 1 bytes ht hti hi iz his hib (by rw [hz]; rfl) (by decide) hb0 v n xs hown kx m (by rw [hz, zeroCells_one]; intro u hu; rw [List.eq_of_mem_replicate hu]; exact hz1) hbytes hbase
  obtain ⟨v', w', h1, h2, h3, h4⟩ := hr
  rw [hz, zeroCells_one] at h2
  unfold Oper.wp
  simp [execOp, ho, resolve, invoke, builtin, hs, hx, h1, Result.andThen]
  exact hK _ _ (h _ _ h2 ⟨h3.os, h3.tape, h3.output, h3.size, fun k hk hne => h3.block k hk (fun e => hne e.symm)⟩ h4)
end Go.Own

namespace Go.Proofs.Ytenbpbnffnodhaa
open Go Go.RowKit Go.Own
set_option linter.unusedVariables false
/-- An arena of this program in memory. -/
abbrev ArA (w : World) (p : Nat) (A : Ar) (v : Value) : Prop := ArAt 199 5 w p A v
abbrev arP (p : Nat) : Value := .pointer (some ⟨p, 0, none⟩)
/-- An error: its code; 0: none. -/
def errV (c : Int) : Value := if c = 0 then .nilIface else .iface 183 (.int .i64 c)
/-- A piece of an arena: m bytes from i on. -/
def AtOk (A : Ar) (v : Value) (i m : Nat) (w : World) (e : Ending) (w' : World) : Prop :=
  ∃ a c, e = .returned (.tuple #[.slice a m c, .nilIface]) ∧ Bs w a m c ((A.b.drop i).take m) ∧ (0 < m → ∃ g cap, v = .slice (some ⟨g, 0, none⟩) A.b.length cap ∧ a = some ⟨g, i, none⟩) ∧ w = w'
set_option maxHeartbeats 1000000 in
theorem arena_at_ok (w : World) (p : Nat) (A : Ar) (v : Value) (h : ArA w p A v) (addr : Int) (i : Nat) (hi : addr = A.base + i) (n : Int) (m : Nat) (hn : n = m) (hf : i + m ≤ A.b.length) :
    Calls Try.prog 210 #[arP p, .int .u64 addr, .int .u64 n] w (AtOk A v i m w) := by
  subst hi; subst hn
  obtain ⟨a, c, rfl, hB, hg, hcr⟩ := h.form
  have hlc := Sl.cap hB
  have q0 : w.cell? ⟨p, 0, none⟩ = some (.int .u64 A.base) := h.row.cell 0
  have q2 : w.cell? ⟨p, 2, none⟩ = some (.slice a A.b.length c) := h.row.cell 2
  have hb := h.hbase; have hc1 := h.hcap; have hc2 := h.hlen
  by_cases hm : 0 < m
  · obtain ⟨g, rfl⟩ := h.at_ i m hf hm
    have hcut := hB.cut i (i + m) (by omega) (by omega)
    have hne : ¬ c = i := by omega
    rw [Nat.add_sub_cancel_left, List.drop_take] at hcut
    simp only [Nat.zero_add, Nat.add_sub_cancel_left] at hcut
    have HC := Lib.hid hcut; have H := Lib.hid h
    clear hcut h hB hg
    go_enter Try.func210, Try.ntmps210
    go_wp2
    go_ret2
    exact ⟨_, _, by simp [Nat.add_sub_cancel_left], HC.out, fun _ => ⟨_, _, rfl, rfl⟩, rfl⟩
  · obtain rfl : m = 0 := by omega
    have hz : Bs w none 0 0 ((A.b.drop i).take 0) := by rw [List.take_zero]; exact Bs.nil w
    have hz1 : ∀ (p : Addr) c', c' ≤ 9223372036854775807 → Bs w (some p) 0 c' ((A.b.drop i).take 0) := fun p c' hc' => by
      rw [List.take_zero]; exact Sl.mk rfl (Nat.zero_le _) hc' (fun h => by cases h) (fun i v h => by simp at h)
    have HZ := Lib.hid hz; have HZ1 := Lib.hid hz1
    clear hz hz1
    cases a with
    | none =>
      have h0 := hB.nilcap rfl
      have hi0 : i = 0 := by omega
      have hl0 : A.b.length = 0 := by omega
      subst hi0; subst h0
      rw [hl0] at q2
      clear h hB hg hl0 hc2 hf
      go_enter Try.func210, Try.ntmps210
      go_wp2
      go_ret2
      exact ⟨_, _, by simp, HZ.out, fun h => absurd h (by omega), rfl⟩
    | some p0 =>
      obtain ⟨pb, po, pc⟩ := p0
      by_cases hci : c = i
      · subst hci
        clear h hB hg
        go_enter Try.func210, Try.ntmps210
        go_wp2
        go_ret2
        refine ⟨_, _, by simp [Nat.add_sub_cancel_left]; exact ⟨rfl, rfl⟩, HZ1.out _ _ (by omega), fun h => absurd h (by omega), rfl⟩
      · clear h hB hg
        go_enter Try.func210, Try.ntmps210
        go_wp2
        go_ret2
        refine ⟨_, _, by simp [Nat.add_sub_cancel_left]; exact ⟨rfl, rfl⟩, HZ1.out _ _ (by omega), fun h => absurd h (by omega), rfl⟩

theorem arena_at_bad (w : World) (p : Nat) (A : Ar) (v : Value) (h : ArA w p A v) (addr n : Int) (h0 : 0 ≤ addr) (h1 : addr ≤ 18446744073709551615) (n0 : 0 ≤ n) (n1 : n ≤ 18446744073709551615) (hf : ¬ ((A.base : Int) ≤ addr ∧ addr - A.base + n ≤ A.b.length)) :
    Calls Try.prog 210 #[arP p, .int .u64 addr, .int .u64 n] w fun e w' => e = .returned (.tuple #[.slice none 0 0, .iface 183 (.int .i64 2)]) ∧ w = w' := by
  obtain ⟨a, c, rfl, hB, hg, hcr⟩ := h.form
  have hlc := Sl.cap hB
  have q0 : w.cell? ⟨p, 0, none⟩ = some (.int .u64 A.base) := h.row.cell 0
  have q2 : w.cell? ⟨p, 2, none⟩ = some (.slice a A.b.length c) := h.row.cell 2
  have hb := h.hbase; have hc1 := h.hcap; have hc2 := h.hlen
  clear h hB hg
  go_enter Try.func210, Try.ntmps210
  by_cases c1 : addr < A.base
  · go_wp2
    go_ret2
    exact ⟨rfl, rfl⟩
  · by_cases c2 : (A.b.length : Int) < addr - A.base
    · go_wp2
      go_ret2
      exact ⟨rfl, rfl⟩
    · have c3 : (A.b.length : Int) - (addr - A.base) < n := by omega
      clear hf
      go_wp2
      go_ret2
      exact ⟨rfl, rfl⟩
theorem arena_Base (w : World) (p : Nat) (A : Ar) (v : Value) (h : ArA w p A v) :
    Calls Try.prog 46 #[arP p] w fun e w' => e = .returned (.int .u64 A.base) ∧ w = w' := by
  have q0 : w.cell? ⟨p, 0, none⟩ = some (.int .u64 A.base) := h.row.cell 0
  clear h
  go_enter Try.func46, Try.ntmps46
  go_wp2
  go_ret
  exact ⟨rfl, rfl⟩
theorem arena_Len (w : World) (p : Nat) (A : Ar) (v : Value) (h : ArA w p A v) :
    Calls Try.prog 44 #[arP p] w fun e w' => e = .returned (.int .i64 A.b.length) ∧ w = w' := by
  obtain ⟨a, c, rfl, hB, hg, hcr⟩ := h.form
  have q2 : w.cell? ⟨p, 2, none⟩ = some (.slice a A.b.length c) := h.row.cell 2
  clear h hB hg
  go_enter Try.func44, Try.ntmps44
  go_wp2
  go_ret
  exact ⟨rfl, rfl⟩
end Go.Proofs.Ytenbpbnffnodhaa

namespace Go.Proofs.Ytenbpbnffnodhaa
open Go Go.RowKit Go.Own
set_option linter.unusedVariables false
/-- Bytes are laid. -/
def StoreOk (p : Nat) (A : Ar) (v : Value) (i : Nat) (b : List UInt8) (w : World) (e : Ending) (w' : World) : Prop :=
  e = .returned .nilIface ∧ ArA w' p { A with b := lay A.b i b } v ∧ Keep (fun k => v.ownBlock = some k) w w'
theorem lay_nil (l : List UInt8) (i : Nat) : lay l i [] = l := by simp [lay]
set_option maxHeartbeats 1000000 in
theorem arena_Store_ok (w : World) (p : Nat) (A : Ar) (v : Value) (h : ArA w p A v) (addr : Int) (i : Nat) (hi : addr = A.base + i) (a : Option Addr) (n c : Nat) (b : List UInt8) (hb : Bs w a n c b) (hf : i + b.length ≤ A.b.length) :
    Calls Try.prog 144 #[arP p, .int .u64 addr, .slice a n c] w (StoreOk p A v i b w) := by
  have hn := hb.len
  subst hn
  have k := arena_at_ok w p A v h addr i hi (b.length : Nat) b.length rfl hf
  have hl : b.length ≤ 16384 := by have := h.hlen; have := h.hcap; omega
  have K := Lib.hid k; have H := Lib.hid h; have HB := Lib.hid hb
  clear k h hb hi
  go_enter Try.func144, Try.ntmps144
  go_wp2_with fail
  refine K.out.mono ?_
  rintro e w' ⟨a1, c1, rfl, hB, hg, rfl⟩
  by_cases h0 : 0 < b.length
  · obtain ⟨g, cap, rfl, rfl⟩ := hg h0
    clear hB hg
    go_wp2_with (refine copy_at rfl (.tmp 18) (.tmp 19) 31 5 199 rfl Try.underlying31 (by kernel_rfl) (by decide) H.out i _ _ rfl _ _ _ b rfl HB.out rfl h0 hf ?_; intro w2 h2 k2)
    go_ret
    exact ⟨rfl, h2, k2.mono fun k _ e => by rw [e]; rfl⟩
  · have hb0 : b = [] := List.eq_nil_of_length_eq_zero (by omega)
    subst hb0
    clear hB hg
    go_wp2_with (refine copy_none rfl (.tmp 18) (.tmp 19) 31 5 rfl Try.underlying31 (by kernel_rfl) _ _ _ rfl _ _ _ rfl (Or.inl rfl) ?_)
    go_ret
    exact ⟨rfl, by rw [lay_nil]; exact H.out, Keep.refl _ _⟩
theorem arena_SetWord_ok (w : World) (p : Nat) (A : Ar) (v : Value) (h : ArA w p A v) (addr : Int) (i : Nat) (hi : addr = A.base + i) (x : Int) (X : Nat) (hx : x = X) (hX : X < 18446744073709551616) (hf : i + 8 ≤ A.b.length) :
    Calls Try.prog 138 #[arP p, .int .u64 addr, .int .u64 x] w (StoreOk p A v i (low X 8) w) := by
  subst hx
  have H := Lib.hid h; have HI := Lib.hid hi
  clear h hi
  go_enter Try.func138, Try.ntmps138
  go_wp2_with fail
  refine (word_Put w X (by omega) (by omega)).mono ?_
  rintro e w1 ⟨a1, n1, c1, rfl, hB1, hn1, hb1⟩
  go_wp2_with fail
  refine (arena_Store_ok w1 p A v (H.out.below hb1) addr i HI.out _ _ _ _ hB1 (by rw [low_length]; exact hf)).mono ?_
  rintro e w2 ⟨rfl, h2, k2⟩
  go_wp2
  go_ret
  exact ⟨rfl, h2, (Keep.of_below hb1).trans k2⟩
/-- A new arena without bytes. -/
def NewAr (base cap : Nat) (w : World) (e : Ending) (w' : World) : Prop :=
  e = .returned (arP w.heap.size) ∧ ArA w' w.heap.size ⟨base, cap, []⟩ (.slice none 0 0) ∧ Below w.heap.size w w'
theorem arena_New_ok (w : World) (b : Int) (B : Nat) (hB : b = B) (c : Int) (C : Nat) (hC : c = C) (h1 : B % 16 = 0) (h2 : B ≤ 4611686018427387904) (h3 : 1024 ≤ C) (h4 : C ≤ 16384) :
    Calls Try.prog 41 #[.int .u64 b, .int .i64 c] w (NewAr B C w) := by
  subst hB; subst hC
  have e1 : ((B : Int) % 16 != 0) = false := by rw [bne_eq_false_iff_eq]; omega
  go_enter Try.func41, Try.ntmps41
  go_wp2
  go_ret
  exact ⟨rfl, ⟨Row.made _ _ _, World.ownsRow_nil _ _ _ _, h2, h1, h4, h3, Nat.zero_le _⟩, (Below.refl _ _).alloc (Nat.le_refl _) _⟩
theorem arena_New_bad (w : World) (b c : Int) (b0 : 0 ≤ b) (b1 : b ≤ 18446744073709551615) (hf : ¬ (b % 16 = 0 ∧ b ≤ 4611686018427387904 ∧ 1024 ≤ c ∧ c ≤ 16384)) :
    Calls Try.prog 41 #[.int .u64 b, .int .i64 c] w fun e w' => e = .returned (.pointer none) ∧ w = w' := by
  by_cases c1 : b % 16 = 0
  · have e1 : (b % 16 != 0) = false := by rw [bne_eq_false_iff_eq]; exact c1
    by_cases c2 : b ≤ 4611686018427387904
    · by_cases c3 : 1024 ≤ c
      · have c4 : 16384 < c := by omega
        clear hf c1
        go_enter Try.func41, Try.ntmps41
        go_wp2
        go_ret
        exact ⟨rfl, rfl⟩
      · clear hf c1
        go_enter Try.func41, Try.ntmps41
        go_wp2
        go_ret
        exact ⟨rfl, rfl⟩
    · clear hf c1
      go_enter Try.func41, Try.ntmps41
      go_wp2
      go_ret
      exact ⟨rfl, rfl⟩
  · have e1 : (b % 16 != 0) = true := by rw [bne_iff_ne]; exact c1
    clear hf c1
    go_enter Try.func41, Try.ntmps41
    go_wp2
    go_ret
    exact ⟨rfl, rfl⟩
/-- More bytes, 0. -/
def GrowOk (p : Nat) (A : Ar) (v : Value) (m : Nat) (w : World) (e : Ending) (w' : World) : Prop :=
  ∃ v', e = .returned .nilIface ∧ ArA w' p { A with b := A.b ++ List.replicate m 0 } v' ∧ Keep (arF p v) w w' ∧ (v'.ownBlock = v.ownBlock ∨ v'.ownBlock = some w.heap.size)
set_option maxHeartbeats 1000000 in
theorem arena_Grow_ok (w : World) (p : Nat) (A : Ar) (v : Value) (h : ArA w p A v) (n : Int) (m : Nat) (hn : n = m) (hf : A.b.length + m ≤ A.cap) :
    Calls Try.prog 137 #[arP p, .int .i64 n] w (GrowOk p A v m w) := by
  subst hn
  obtain ⟨a, c, rfl, hB, hg, hcr⟩ := h.form
  have hlc := Sl.cap hB
  have q1 : w.cell? ⟨p, 1, none⟩ = some (.int .i64 A.cap) := h.row.cell 1
  have q2 : w.cell? ⟨p, 2, none⟩ = some (.slice a A.b.length c) := h.row.cell 2
  have hb := h.hbase; have hc1 := h.hcap; have hc2 := h.hlen
  have hs1 : IntKind.i64.wrap ((A.cap : Int) - (A.b.length : Int)) = (A.cap : Int) - (A.b.length : Int) := IntWalk.i64_in _ (by omega)
  have ht : decide ((A.cap : Int) - (A.b.length : Int) < (m : Int)) = false := by simp; omega
  have H := Lib.hid h
  clear h hB hg
  go_enter Try.func137, Try.ntmps137
  go_wp2
  go_quiet (fail)
  clear hs1 ht
  have H1 := H.out.drewN nq
  have k1 := (Keep.refl (arF p (.slice a A.b.length c)) w).drewN nq
  have r1 := H1.row
  have hap := H1.apart (by decide)
  have own0 := H1.own
  have HAP := Lib.hid hap
  clear hap H1
  go_wp2_with (at_builtin; go_must (refine app_zeros_own rfl (.tmp 27) (.tmp 28) 31 3 rfl 0 5 (.int .u8 0) 1 Try.underlying31 Try.underlying3 info_u8 rfl rfl (by decide) (.slice a A.b.length c) _ _ rfl own0 _ _ m rfl rfl (by omega) (Nat.zero_le _) ?_; intro v1 w1 own1 kp1 hbl1; obtain ⟨a1, c1, rfl, _, hs1⟩ := Sl.of_owned own1; have r2 := r1.keep kp1 HAP.out; have f2 := r2.frozen 2; have c2 : w1.cell? ⟨p, 2, none⟩ = some (.slice a A.b.length c) := r2.cell 2))
  go_ret
  have r3 := r2.set 2 (.slice a1 (A.b.length + m) c1)
  have k2 := (k1.trans (kp1.mono fun k _ hk => .inr hk)).setCell (p := ⟨p, 2, none⟩) (.inl (.inl rfl)) (.slice a1 (A.b.length + m) c1)
  have k3 := (Keep.refl (· = p) w1).setCell (p := ⟨p, 2, none⟩) (.inl rfl) (.slice a1 (A.b.length + m) c1)
  have hne : ∀ g, (Value.slice a1 (A.b.length + m) c1).ownBlock = some g → ¬ g = p := by
    rintro g hg rfl
    rcases hbl1 with h | h
    · rw [h] at hg; exact HAP.out hg
    · rw [h] at hg
      have : g = (w.drewN nq).heap.size := by simpa using hg.symm
      have := r1.lt
      omega
  exact ⟨_, rfl, ⟨r3, ownsRow_map (own_kept own1 k3 hne) (by simp) (by simp [bv]), H.out.hbase, H.out.hmod, H.out.hcap, H.out.hmin, by simp; omega⟩, k2, hbl1⟩
theorem arena_Grow_neg (w : World) (p : Nat) (n : Int) (hn : n < 0) :
    Calls Try.prog 137 #[arP p, .int .i64 n] w fun e w' => e = .returned (.iface 183 (.int .i64 1)) ∧ Below w.heap.size w w' := by
  go_enter Try.func137, Try.ntmps137
  go_wp2
  go_ret
  exact ⟨rfl, Below.refl _ _⟩
theorem arena_Grow_full (w : World) (p : Nat) (A : Ar) (v : Value) (h : ArA w p A v) (n : Int) (hn : 0 ≤ n) (hf : (A.cap : Int) < A.b.length + n) :
    Calls Try.prog 137 #[arP p, .int .i64 n] w fun e w' => e = .returned (.iface 183 (.int .i64 5)) ∧ Below w.heap.size w w' := by
  obtain ⟨a, c, rfl, hB, hg, hcr⟩ := h.form
  have hlc := Sl.cap hB
  have q1 : w.cell? ⟨p, 1, none⟩ = some (.int .i64 A.cap) := h.row.cell 1
  have q2 : w.cell? ⟨p, 2, none⟩ = some (.slice a A.b.length c) := h.row.cell 2
  have hc1 := h.hcap; have hc2 := h.hlen
  have hs1 : IntKind.i64.wrap ((A.cap : Int) - (A.b.length : Int)) = (A.cap : Int) - (A.b.length : Int) := IntWalk.i64_in _ (by omega)
  have ht : decide ((A.cap : Int) - (A.b.length : Int) < n) = true := by simp; omega
  clear h hB hg
  go_enter Try.func137, Try.ntmps137
  go_wp2
  go_quiet (fail)
  clear hs1 ht
  go_wp2
  go_ret
  exact ⟨rfl, below_drewN (Below.refl _ _) _⟩
end Go.Proofs.Ytenbpbnffnodhaa

namespace Go.Own
open Go
section
variable {P : Program} (w : World)
theorem run_equalIn_iface_int (d : Nat) {ti tn : TypeId} {ms : Array (String × TypeId)} {i : TypeInfo} {k : IntKind} (a b : Int)
    (hi : P.underlying ti = some (.interface ms)) (hn : P.underlying tn = some (.int k)) (hinfo : P.info? tn = some i) (hcomp : i.comparable = true) :
    (Op.equalIn (d + 2) ti (.iface tn (.int k a)) (.iface tn (.int k b))).run P w = .ok (a == b) w := by
  simp [Op.equalIn, run_underlying hi, run_underlying hn, typeInfo, hinfo, hcomp]
/-- 'x == y', both interface values of one integer type: as the numbers are. -/
theorem run_eql_iface_int {ti tn : TypeId} {ms : Array (String × TypeId)} {k : IntKind} (a b : Int)
    (hi : P.underlying ti = some (.interface ms)) (hn : P.underlying tn = some (.int k)) (hc : (P.info? tn).map (·.comparable) = some true) :
    (binOp .eql ti (.iface tn (.int k a)) (.iface tn (.int k b))).run P w = .ok (.bool (a == b)) w := by
  cases h : P.info? tn with
  | none => rw [h] at hc; cases hc
  | some i =>
    rw [h] at hc
    simp only [binOp]
    simp [Op.equal, Op.maxDepth, run_equalIn_iface_int w 9998 a b hi hn h (by simpa using hc)]
end
end Go.Own
namespace Go.Proofs.Ytenbpbnffnodhaa
open Go Go.RowKit Go.Own
set_option linter.unusedVariables false
theorem ee (w : World) (a b : Int) : (binOp .eql 28 (.iface 183 (.int .i64 a)) (.iface 183 (.int .i64 b))).run Try.prog w = .ok (.bool (a == b)) w :=
  run_eql_iface_int w a b Try.underlying28 Try.underlying183 (by kernel_rfl)
theorem code_nil (w : World) : Calls Try.prog 51 #[.nilIface] w fun e w' => e = .returned (.int .i64 0) ∧ w = w' := by
  go_enter Try.func51, Try.ntmps51
  go_wp2
  go_ret
  exact ⟨rfl, rfl⟩
theorem code_of (w : World) (K : Int) (h1 : 1 ≤ K) (h2 : K ≤ 10) : Calls Try.prog 51 #[.iface 183 (.int .i64 K)] w fun e w' => e = .returned (.int .i64 K) ∧ w = w' := by
  have he := ee w
  go_enter Try.func51, Try.ntmps51
  go_wp2
  go_loop [3] (fun c => ∃ k : Int, 1 ≤ k ∧ k ≤ K ∧ c = .int .i64 k) (fun c => (K - intOf c).toNat)
  case atStart => exact ⟨1, by omega, h1, rfl⟩
  case round =>
    obtain ⟨k, k1, k2, rfl⟩ := hrel
    by_cases hk : k = K
    · subst hk
      go_wp2
      go_ret
      exact ⟨rfl, rfl⟩
    · have hb : (K == k) = false := by rw [beq_eq_false_iff_ne]; omega
      clear hk
      have hk : k < K := by
        have := beq_eq_false_iff_ne.1 hb; omega
      go_wp2
      exact ⟨⟨k + 1, by omega, by omega, rfl⟩, by simp [intOf]; omega⟩
theorem law_Base (w : World) (n : Int) (h0 : 0 ≤ n) (h1 : n ≤ 18446744073709551615) :
    Calls Try.prog 60 #[.int .u64 n] w fun e w' => e = .returned (.int .u64 (n % 288230376151711744 * 16)) ∧ w = w' := by
  go_enter Try.func60, Try.ntmps60
  go_wp2
  go_ret
  exact ⟨rfl, rfl⟩
/-- An arena in new memory, on which these bytes stand. -/
def MadeAr (A : Ar) (w : World) (e : Ending) (w' : World) : Prop :=
  ∃ p v, e = .returned (arP p) ∧ ArA w' p A v ∧ (∀ k, arF p v k → w.heap.size ≤ k) ∧ Below w.heap.size w w'
theorem law_Arena_none (w : World) (b c : Int) (b0 : 0 ≤ b) (b1 : b ≤ 18446744073709551615) (a : Option Addr) (n cp : Nat) (hf : ¬ (b % 16 = 0 ∧ b ≤ 4611686018427387904 ∧ 1024 ≤ c ∧ c ≤ 16384)) :
    Calls Try.prog 59 #[.int .u64 b, .int .i64 c, .slice a n cp] w fun e w' => e = .returned (.pointer none) ∧ w = w' := by
  have k1 := arena_New_bad w b c b0 b1 hf
  have K1 := Lib.hid k1
  clear k1 hf
  go_enter Try.func59, Try.ntmps59
  go_wp2_with fail
  refine K1.out.mono ?_
  rintro e w' ⟨rfl, rfl⟩
  go_wp2
  go_ret
  exact ⟨rfl, rfl⟩
set_option maxHeartbeats 1000000 in
theorem law_Arena (w : World) (b : Int) (B : Nat) (hB : b = B) (c : Int) (C : Nat) (hC : c = C) (h1 : B % 16 = 0) (h2 : B ≤ 4611686018427387904) (h3 : 1024 ≤ C) (h4 : C ≤ 16384)
    (a : Option Addr) (n cp : Nat) (l : List UInt8) (hb : Bs w a n cp l) (hl : l.length ≤ C) :
    Calls Try.prog 59 #[.int .u64 b, .int .i64 c, .slice a n cp] w (MadeAr ⟨B, C, l⟩ w) := by
  have k1 := arena_New_ok w b B hB c C hC h1 h2 h3 h4
  have hn := hb.len
  have hcp := Sl.cap hb; have hr := Sl.room hb
  subst hn
  have hcl : (l.length : Int) ≤ c := by omega
  have K1 := Lib.hid k1; have HB := Lib.hid hb; have HBB := Lib.hid hB
  clear k1 hb hB hC
  go_enter Try.func59, Try.ntmps59
  go_wp2_with fail
  refine K1.out.mono ?_
  rintro e w1 ⟨rfl, hA1, hb1⟩
  have A1 := Lib.hid hA1
  have s1 := hb1.size
  clear hA1
  go_wp2_with fail
  refine (arena_Grow_ok w1 _ _ _ A1.out l.length l.length rfl (by show 0 + l.length ≤ C; omega)).mono ?_
  rintro e w2 ⟨v2, rfl, hA2, k2, g2⟩
  have b2 : Below w.heap.size w w2 := hb1.trans (k2.below hb1.size fun k hk hf => by
    rcases hf with rfl | hf
    · omega
    · cases hf)
  have hl0 : (([] : List UInt8) ++ List.replicate l.length 0).length = l.length := by simp
  have A2 := Lib.hid hA2; have G2 := Lib.hid g2; have HL := Lib.hid hl0
  clear hA2 g2 hl0 k2
  go_wp2_with fail
  refine (arena_Store_ok w2 _ _ _ A2.out b 0 (by simp [HBB.out]) _ _ _ l (HB.out.below b2) (by show 0 + l.length ≤ _; rw [HL.out]; omega)).mono ?_
  rintro e w3 ⟨rfl, hA3, k3⟩
  have ha : lay (([] : List UInt8) ++ List.replicate l.length 0) 0 l = l := by simp [lay]
  simp only at hA3
  rw [ha] at hA3
  have A3 := Lib.hid hA3
  clear hA3 ha
  have hv2 : ∀ g, v2.ownBlock = some g → w.heap.size ≤ g := by
    intro g hg
    rcases G2.out with e | e
    · rw [e] at hg; cases hg
    · rw [e] at hg; cases hg; exact s1
  have HV := Lib.hid hv2
  clear hv2
  go_wp2
  go_ret
  refine ⟨_, v2, rfl, A3.out, fun k hk => ?_, b2.trans (k3.below b2.size fun k hk hf => ?_)⟩
  · rcases hk with rfl | hk
    · exact Nat.le_refl _
    · exact HV.out k hk
  · have := HV.out k hf; omega
end Go.Proofs.Ytenbpbnffnodhaa

/- Sizes, tags and classes in plain words. No program. -/
namespace Go.Own
def isSize (s : Int) : Bool := decide (32 ≤ s ∧ s ≤ 16384 ∧ s % 16 = 0)
/-- The tag. -/
def tagOf (s : Int) (u : Bool) : Int := if isSize s then (if u then s + 1 else s) else 0
/-- What a number tells as a tag: is it one; the size; is it used. -/
def isTag (w : Int) : Bool := isSize (w - w % 2)
def tagS (w : Int) : Int := if isTag w then w - w % 2 else 0
def tagU (w : Int) : Bool := isTag w && decide (w % 2 = 1)
def cls (s : Int) : Int :=
  if isSize s then (if s ≤ 256 then s / 16 - 2 else if s < 512 then 15 else if s < 1024 then 16 else if s < 2048 then 17 else if s < 4096 then 18 else if s < 8192 then 19 else if s < 16384 then 20 else 21) else -1
theorem isSize_iff (s : Int) : isSize s = true ↔ 32 ≤ s ∧ s ≤ 16384 ∧ s % 16 = 0 := by unfold isSize; exact decide_eq_true_iff
theorem isSize_yes {s : Int} (h : 32 ≤ s ∧ s ≤ 16384 ∧ s % 16 = 0) : isSize s = true := (isSize_iff s).2 h
theorem isSize_no {s : Int} (h : ¬ (32 ≤ s ∧ s ≤ 16384 ∧ s % 16 = 0)) : isSize s = false := by
  rw [← Bool.not_eq_true, isSize_iff]; exact h
theorem tagOf_rng (s : Int) (u : Bool) : 0 ≤ tagOf s u ∧ tagOf s u ≤ 16385 := by
  unfold tagOf; split
  · rename_i h; rw [isSize_iff] at h; split <;> omega
  · omega
theorem isTag_tagOf {s : Int} {u : Bool} (h : isSize s = true) : isTag (tagOf s u) = true ∧ tagS (tagOf s u) = s ∧ tagU (tagOf s u) = u := by
  have h' := (isSize_iff s).1 h
  have e : tagOf s u - tagOf s u % 2 = s := by unfold tagOf; rw [h]; cases u <;> simp <;> omega
  have t : isTag (tagOf s u) = true := by unfold isTag; rw [e]; exact h
  refine ⟨t, by unfold tagS; rw [t, e]; rfl, ?_⟩
  unfold tagU
  rw [t]
  unfold tagOf
  rw [h]
  cases u <;> simp <;> omega
theorem tagOf_isTag {w : Int} (h : isTag w = true) : tagOf (tagS w) (tagU w) = w ∧ isSize (tagS w) = true := by
  have h0 := h
  unfold isTag at h
  have e : tagS w = w - w % 2 := by unfold tagS; rw [h0]; rfl
  refine ⟨?_, by rw [e]; exact h⟩
  unfold tagOf tagU
  rw [e, h, h0]
  by_cases p : w % 2 = 1
  · simp [p]
  · have : w % 2 = 0 := by omega
    simp [this]
theorem tagOf_zero {s : Int} {u : Bool} : tagOf s u = 0 ↔ isSize s = false := by
  unfold tagOf
  cases h : isSize s with
  | false => simp
  | true => rw [isSize_iff] at h; cases u <;> simp <;> omega
theorem noTag {w : Int} (h : isTag w = false) : tagS w = 0 ∧ tagU w = false := by unfold tagS tagU; rw [h]; exact ⟨rfl, rfl⟩
theorem isTag_rng {w : Int} (h : isTag w = true) : 32 ≤ w ∧ w ≤ 16385 := by unfold isTag at h; rw [isSize_iff] at h; omega
theorem andLow (W : Nat) : (W &&& 18446744073709551614) &&& 65535 = W % 65536 - W % 2 := by
  have e1 : (W &&& 18446744073709551614) &&& 65535 = W &&& 65534 := by rw [Nat.and_assoc]; rfl
  have e2 : W &&& 65535 = W % 65536 := Nat.and_two_pow_sub_one_eq_mod W 16
  have e3 : W &&& 1 = W % 2 := Nat.and_two_pow_sub_one_eq_mod W 1
  have e4 : W &&& 65535 = (W &&& 65534) ||| (W &&& 1) := by rw [← Nat.and_or_distrib_left]; rfl
  have e5 : (W &&& 65534) % 2 ^ 1 = 0 := by rw [Nat.and_mod_two_pow]; simp
  have e6 : W &&& 1 < 2 ^ 1 := by rw [e3]; omega
  rw [nat_join 1 _ _ e5 e6, e2, e3] at e4
  rw [e1]; omega
theorem andNot1 (w : Int) (h0 : 0 ≤ w) (h1 : w ≤ 18446744073709551615) : bits .andNot .u64 w 1 = ((w.toNat &&& 18446744073709551614 : Nat) : Int) := by
  rw [u64_andNot w 1 h0 (by omega) (by decide) (by decide)]
  have e : (18446744073709551615 - (1 : Int).toNat) = 18446744073709551614 := by decide
  rw [e]
theorem low_eq (w : Int) (h0 : 0 ≤ w) (h1 : w ≤ 18446744073709551615) : bits .and .u64 (bits .andNot .u64 w 1) 65535 = w % 65536 - w % 2 := by
  rw [andNot1 w h0 h1]
  have hb : ((w.toNat &&& 18446744073709551614 : Nat)) < 18446744073709551616 := by
    have : (w.toNat &&& 18446744073709551614 : Nat) ≤ w.toNat := Nat.and_le_left
    omega
  rw [u64_and _ _ (by omega) (by omega) (by decide) (by decide)]
  have := andLow w.toNat
  have e' : ((65535 : Int)).toNat = 65535 := by decide
  rw [e', Int.toNat_natCast, this]; omega
theorem odd_eq (w : Int) (h0 : 0 ≤ w) (h1 : w ≤ 18446744073709551615) : bits .and .u64 w 1 = w % 2 := by
  rw [u64_and w 1 h0 (by omega) (by decide) (by decide)]
  have e' : ((1 : Int)).toNat = 1 := by decide
  rw [e', nat_mask1]; omega
theorem or1 (w : Int) (h0 : 0 ≤ w) (h1 : w ≤ 18446744073709551615) (h2 : w % 2 = 0) : bits .or .u64 w 1 = w + 1 := by
  rw [u64_or w 1 h0 (by omega) (by decide) (by decide)]
  have e' : ((1 : Int)).toNat = 1 := by decide
  rw [e', nat_join 1 w.toNat 1 (by omega) (by decide)]; omega
/-- Unpack's own way. -/
theorem unpack_eq (w : Int) (h0 : 0 ≤ w) : (tagOf (w % 65536 - w % 2) (w % 2 == 1) != w) = !isTag w ∨ w = 0 := by
  by_cases hz : w = 0
  · exact .inr hz
  left
  unfold tagOf isTag
  by_cases hs : isSize (w % 65536 - w % 2) = true
  · have h' := (isSize_iff _).1 hs
    rw [hs]
    by_cases hw : w < 65536
    · have e : w % 65536 = w := by omega
      rw [e] at hs ⊢
      rw [hs]
      by_cases p : w % 2 = 1
      · simp [p]
      · have : w % 2 = 0 := by omega
        simp [this]
    · rw [isSize_no (by omega)]
      by_cases p : w % 2 = 1
      · simp [p]; omega
      · have : w % 2 = 0 := by omega
        simp [this]; omega
  · rw [Bool.not_eq_true] at hs
    rw [hs]
    have h2 : isSize (w - w % 2) = false := by
      by_cases hw : w < 65536
      · have e : w % 65536 = w := by omega
        rwa [e] at hs
      · exact isSize_no (by omega)
    rw [h2]; simp; omega
/-- The class, by the length of the number. -/
theorem cls_len {s : Int} (h : isSize s = true) (h2 : 256 < s) (b : Int) (hb : b = if s < 512 then 9 else if s < 1024 then 10 else if s < 2048 then 11 else if s < 4096 then 12 else if s < 8192 then 13 else if s < 16384 then 14 else 15) : cls s = 6 + b := by
  subst hb
  unfold cls
  rw [h]
  simp only [if_true]
  rw [if_neg (by omega)]
  repeat (split <;> try omega)
end Go.Own

/- Blocks and lists of an arena's bytes, in plain words. No program. -/
namespace Go.Own
/-- The number of eight bytes at a place; 0: they aren't there. -/
def numAt (b : List UInt8) (o : Nat) : Nat := if o + 8 ≤ b.length then num ((b.drop o).take 8) else 0
def layAt (b : List UInt8) (o v : Nat) : List UInt8 := lay b o (low v 8)
structure Blk where
  off : Nat
  size : Nat
  used : Bool
  deriving DecidableEq
def blkAt (b : List UInt8) (o : Nat) : Option Blk :=
  if 184 ≤ o ∧ o % 16 = 8 ∧ isTag (numAt b o) = true ∧ o + (tagS (numAt b o)).toNat ≤ b.length ∧ numAt b (o + (tagS (numAt b o)).toNat - 8) = numAt b o then
    some ⟨o, (tagS (numAt b o)).toNat, tagU (numAt b o)⟩ else none
def tagB (x : Blk) : Nat := (tagOf x.size x.used).toNat
/-- Both tags are laid. -/
def setB (b : List UInt8) (x : Blk) : List UInt8 := layAt (layAt b x.off (tagB x)) (x.off + x.size - 8) (tagB x)
def couldB (b : List UInt8) (o s : Int) : Bool := decide (184 ≤ o ∧ o % 16 = 8 ∧ o ≤ b.length ∧ s ≤ b.length - o)
def aheadB (b : List UInt8) (o : Nat) : Option Blk :=
  if 184 ≤ o ∧ o ≤ b.length ∧ isTag (numAt b (o - 8)) = true then
    match blkAt b (o - (tagS (numAt b (o - 8))).toNat) with
    | some x => if (tagS (numAt b (o - 8))).toNat ≤ o ∧ x.size = (tagS (numAt b (o - 8))).toNat ∧ x.used = tagU (numAt b (o - 8)) then some x else none
    | none => none
  else none
def walkFrom (b : List UInt8) : Nat → Nat → Option (List Blk)
  | 0, o => if o < b.length then none else some []
  | f + 1, o => if o < b.length then (match blkAt b o with
    | none => none
    | some x => (walkFrom b f (o + x.size)).map (x :: ·)) else some []
def walkB (b : List UInt8) : Option (List Blk) := if b.length < 184 then none else walkFrom b b.length 184
theorem numAt_lt (b : List UInt8) (o : Nat) : numAt b o < 18446744073709551616 := by
  unfold numAt; split
  · have h1 := num_lt ((b.drop o).take 8)
    have h2 : ((b.drop o).take 8).length ≤ 8 := List.length_take_le _ _
    have h3 := Nat.pow_le_pow_right (n := 256) (by decide) h2
    omega
  · decide
theorem tagS_isTag {w : Int} (h : isTag w = true) : 32 ≤ tagS w ∧ tagS w ≤ 16384 ∧ tagS w % 16 = 0 := by
  have := (tagOf_isTag h).2
  exact (isSize_iff _).1 this
theorem blkAt_some {b : List UInt8} {o : Nat} {x : Blk} (h : blkAt b o = some x) :
    x.off = o ∧ 184 ≤ o ∧ o % 16 = 8 ∧ 32 ≤ x.size ∧ x.size ≤ 16384 ∧ x.size % 16 = 0 ∧ o + x.size ≤ b.length ∧ isTag (numAt b o) = true ∧ (x.size : Int) = tagS (numAt b o) ∧ x.used = tagU (numAt b o) ∧ numAt b (o + x.size - 8) = numAt b o ∧ numAt b o = tagB x := by
  unfold blkAt at h
  split at h
  · rename_i hh
    obtain ⟨h1, h2, h3, h4, h5⟩ := hh
    have h6 := tagS_isTag h3
    simp only [Option.some.injEq] at h
    subst h
    simp only
    refine ⟨trivial, h1, h2, by omega, by omega, by omega, h4, h3, by omega, trivial, h5, ?_⟩
    unfold tagB
    have h7 := (tagOf_isTag h3).1
    simp only
    rw [show ((tagS (numAt b o)).toNat : Int) = tagS (numAt b o) by omega, h7]
    omega
  · cases h
theorem blkAt_mk {b : List UInt8} {o s : Nat} {u : Bool} (h1 : 184 ≤ o) (h2 : o % 16 = 8) (h3 : isSize s = true) (h4 : o + s ≤ b.length) (h5 : numAt b o = (tagOf s u).toNat) (h6 : numAt b (o + s - 8) = (tagOf s u).toNat) : blkAt b o = some ⟨o, s, u⟩ := by
  have hr := tagOf_rng s u
  have e : ((numAt b o : Nat) : Int) = tagOf s u := by omega
  obtain ⟨t1, t2, t3⟩ := isTag_tagOf (s := s) (u := u) h3
  unfold blkAt
  rw [e, t2, t3, t1, Int.toNat_natCast, if_pos ⟨h1, h2, rfl, h4, by rw [h6, h5]⟩]
theorem layAt_length (b : List UInt8) (o v : Nat) (h : o + 8 ≤ b.length) : (layAt b o v).length = b.length := lay_length _ _ _ (by rw [low_length]; exact h)
theorem lay_take {l b : List UInt8} {i : Nat} (h : i + b.length ≤ l.length) (j : Nat) (hj : j ≤ i) : (lay l i b).take j = l.take j := by
  have h1 : (l.take i).length = i := by rw [List.length_take]; omega
  unfold lay
  rw [List.append_assoc, List.take_append_of_le_length (by omega), List.take_take, Nat.min_eq_left hj]
theorem lay_drop {l b : List UInt8} {i : Nat} (h : i + b.length ≤ l.length) (j : Nat) (hj : i + b.length ≤ j) : (lay l i b).drop j = l.drop j := by
  have h1 : (l.take i ++ b).length = i + b.length := by rw [List.length_append, List.length_take]; omega
  unfold lay
  rw [List.drop_append, List.drop_of_length_le (by omega), List.nil_append, h1, List.drop_drop]
  congr 1
  omega
theorem lay_piece {l b : List UInt8} {i : Nat} (h : i + b.length ≤ l.length) : ((lay l i b).drop i).take b.length = b := by
  have h1 : (l.take i).length = i := by rw [List.length_take]; omega
  unfold lay
  rw [List.append_assoc, List.drop_append_of_le_length (by omega), List.drop_of_length_le (by omega), List.nil_append, List.take_left]
theorem lay_far {l b : List UInt8} {i : Nat} (h : i + b.length ≤ l.length) (o n : Nat) (hd : o + n ≤ i ∨ i + b.length ≤ o) : ((lay l i b).drop o).take n = (l.drop o).take n := by
  rcases hd with hd | hd
  · have e : ∀ m : List UInt8, (m.drop o).take n = ((m.take i).drop o).take n := fun m => by
      rw [List.drop_take, List.take_take, Nat.min_eq_left (by omega)]
    rw [e, e l, lay_take h i (Nat.le_refl _)]
  · rw [lay_drop h o hd]
theorem numAt_same (b : List UInt8) (o v : Nat) (h : o + 8 ≤ b.length) (hv : v < 18446744073709551616) : numAt (layAt b o v) o = v := by
  unfold numAt
  rw [layAt_length _ _ _ h, if_pos h]
  have := lay_piece (l := b) (b := low v 8) (i := o) (by rw [low_length]; exact h)
  rw [low_length] at this
  unfold layAt
  rw [this, num_low]
  exact Nat.mod_eq_of_lt (by simpa using hv)
theorem numAt_far (b : List UInt8) (o o' v : Nat) (h : o + 8 ≤ b.length) (hd : o' + 8 ≤ o ∨ o + 8 ≤ o') : numAt (layAt b o v) o' = numAt b o' := by
  unfold numAt
  rw [layAt_length _ _ _ h]
  split
  · unfold layAt
    rw [lay_far (by rw [low_length]; exact h) o' 8 (by rw [low_length]; omega)]
  · rfl
/-- At multiples of eight. -/
theorem numAt_lay (b : List UInt8) (o o' v : Nat) (h : o + 8 ≤ b.length) (hv : v < 18446744073709551616) (h8 : o % 8 = o' % 8) : numAt (layAt b o v) o' = if o' = o then v else numAt b o' := by
  split
  · rename_i e; subst e; exact numAt_same b o' v h hv
  · exact numAt_far b o o' v h (by omega)
theorem setB_length (b : List UInt8) (x : Blk) (h1 : 16 ≤ x.size) (h2 : x.off + x.size ≤ b.length) : (setB b x).length = b.length := by
  unfold setB
  rw [layAt_length _ _ _ (by rw [layAt_length _ _ _ (by omega)]; omega), layAt_length _ _ _ (by omega)]
/-! ### Lists -/
def headO (c : Nat) : Nat := 8 + 8 * c
def memberB (b : List UInt8) (at_ : Nat) (c : Nat) : Bool := match blkAt b at_ with
  | some x => !x.used && decide (cls x.size = c)
  | none => false
def freeB (b : List UInt8) (o : Nat) : Option Nat := match blkAt b o with
  | some x => if x.used then none else some (cls x.size).toNat
  | none => none
def bitAt (w c : Nat) : Bool := decide (w / 2 ^ c % 2 = 1)
def setBit (w c : Nat) (v : Bool) : Nat := if bitAt w c = v then w else w ^^^ 2 ^ c
def markB (b : List UInt8) (c : Nat) : List UInt8 := layAt b 0 (setBit (numAt b 0) c (decide (numAt b (headO c) ≠ 0)))
def putB (b : List UInt8) (o : Nat) : Option (List UInt8) := match freeB b o with
  | none => none
  | some c =>
    let first := numAt b (headO c)
    if first = o ∨ (first ≠ 0 ∧ memberB b first c = false) then none else
    let b1 := layAt (layAt b (o + 8) first) (o + 16) 0
    let b2 := if first = 0 then b1 else layAt b1 (first + 16) o
    some (markB (layAt b2 (headO c) o) c)
def takeB (b : List UInt8) (o : Nat) : Option (List UInt8) := match freeB b o with
  | none => none
  | some c =>
    let p := numAt b (o + 16)
    let n := numAt b (o + 8)
    if (p = 0 ∧ numAt b (headO c) ≠ o) ∨ (p ≠ 0 ∧ (memberB b p c = false ∨ numAt b (p + 8) ≠ o)) ∨ (n ≠ 0 ∧ (memberB b n c = false ∨ numAt b (n + 16) ≠ o)) then none else
    let b1 := if p = 0 then layAt b (headO c) n else layAt b (p + 8) n
    let b2 := if n = 0 then b1 else layAt b1 (n + 16) p
    some (markB b2 c)
def allFrom (b : List UInt8) (c : Nat) : Nat → Nat → Nat → Option (List Nat)
  | 0, at_, _ => if at_ = 0 then some [] else none
  | f + 1, at_, last => if at_ = 0 then some [] else
    if memberB b at_ c = false ∨ numAt b (at_ + 16) ≠ last then none else (allFrom b c f (numAt b (at_ + 8)) at_).map (at_ :: ·)
def allB (b : List UInt8) (c : Nat) : Option (List Nat) :=
  if b.length < 184 then none else if bitAt (numAt b 0) c ≠ decide (numAt b (headO c) ≠ 0) then none else allFrom b c 1024 (numAt b (headO c)) 0
/-- The first one of a list that is large enough. -/
def firstFit (b : List UInt8) (size : Nat) : List Nat → Option Nat
  | [] => none
  | o :: l => match blkAt b o with
    | some x => if size ≤ x.size then some o else firstFit b size l
    | none => firstFit b size l
/-- Of so many classes from c on: where a block stands (0: none); nothing: a list is amiss. -/
def findFrom (b : List UInt8) (size : Nat) : Nat → Nat → Option Nat
  | 0, _ => some 0
  | f + 1, c => match allB b c with
    | none => none
    | some l => match firstFit b size l with
      | some o => some o
      | none => findFrom b size f (c + 1)
def findB (b : List UInt8) (size : Nat) : Option Nat := findFrom b size (22 - (cls size).toNat) (cls size).toNat
end Go.Own

/- What an arena's calls come to, in plain words: an error's number, and the arena then. -/
namespace Go.Own
def Ar.there (A : Ar) (addr n : Int) : Bool := decide ((A.base : Int) ≤ addr ∧ addr - A.base + n ≤ A.b.length)
def Ar.at' (A : Ar) (addr : Int) : Nat := (addr - A.base).toNat
def Ar.grow (A : Ar) (n : Int) : Int × Ar := if n < 0 then (1, A) else if (A.cap : Int) < A.b.length + n then (5, A) else (0, { A with b := A.b ++ List.replicate n.toNat 0 })
def Ar.load (A : Ar) (addr n : Int) : Int × List UInt8 := if A.there addr n then (0, (A.b.drop (A.at' addr)).take n.toNat) else (2, [])
def Ar.store (A : Ar) (addr : Int) (b : List UInt8) : Int × Ar := if A.there addr b.length then (0, { A with b := lay A.b (A.at' addr) b }) else (2, A)
def Ar.copy (A : Ar) (to fr n : Int) : Int × Ar := if A.there fr n ∧ A.there to n then (0, { A with b := lay A.b (A.at' to) ((A.b.drop (A.at' fr)).take n.toNat) }) else (2, A)
end Go.Own

/- The arena's other calls: Cap, Word, Widen, Clone. -/
namespace Go.Proofs.Ytenbpbnffnodhaa
open Go Go.RowKit Go.Own
set_option linter.unusedVariables false
set_option maxRecDepth 100000
theorem arena_Cap (w : World) (p : Nat) (A : Ar) (v : Value) (h : ArA w p A v) :
    Calls Try.prog 45 #[arP p] w fun e w' => e = .returned (.int .i64 A.cap) ∧ w = w' := by
  have q1 : w.cell? ⟨p, 1, none⟩ = some (.int .i64 A.cap) := h.row.cell 1
  clear h
  go_enter Try.func45, Try.ntmps45
  go_wp2
  go_ret
  exact ⟨rfl, rfl⟩
theorem arena_Word_ok (w : World) (p : Nat) (A : Ar) (v : Value) (h : ArA w p A v) (addr : Int) (i : Nat) (hi : addr = A.base + i) (hf : i + 8 ≤ A.b.length) :
    Calls Try.prog 146 #[arP p, .int .u64 addr] w fun e w' => e = .returned (.tuple #[.int .u64 (numAt A.b i : Nat), .nilIface]) ∧ w = w' := by
  have k := arena_at_ok w p A v h addr i hi 8 8 rfl hf
  have K := Lib.hid k
  have hg : getV ((A.b.drop i).take 8) 0 8 = (numAt A.b i : Nat) := by
    have hl : ((A.b.drop i).take 8).length = 8 := by simp; omega
    unfold getV numAt
    rw [hl, if_pos (by decide), if_pos hf]
    simp [List.take_take]
  have HG := Lib.hid hg
  clear k h hi hf hg
  go_enter Try.func146, Try.ntmps146
  go_wp2_with fail
  refine K.out.mono ?_
  rintro e w' ⟨a1, c1, rfl, hB, hg, rfl⟩
  have HB := Lib.hid hB
  clear hB hg
  go_wp2_with fail
  refine (word_Get w a1 8 c1 _ 0 HB.out (by decide) (by decide)).mono ?_
  rintro e w' ⟨rfl, rfl⟩
  rw [HG.out]
  go_wp2
  go_ret2
  exact ⟨rfl, rfl⟩
theorem arena_Word_bad (w : World) (p : Nat) (A : Ar) (v : Value) (h : ArA w p A v) (addr : Int) (h0 : 0 ≤ addr) (h1 : addr ≤ 18446744073709551615) (hf : ¬ ((A.base : Int) ≤ addr ∧ addr - A.base + 8 ≤ A.b.length)) :
    Calls Try.prog 146 #[arP p, .int .u64 addr] w fun e w' => e = .returned (.tuple #[.int .u64 0, .iface 183 (.int .i64 2)]) ∧ w = w' := by
  have k := arena_at_bad w p A v h addr 8 h0 h1 (by decide) (by decide) hf
  have K := Lib.hid k
  clear k h hf
  go_enter Try.func146, Try.ntmps146
  go_wp2_with fail
  refine K.out.mono ?_
  rintro e w' ⟨rfl, rfl⟩
  go_wp2_with fail
  refine (word_Get w none 0 0 [] 0 (Bs.nil w) (by decide) (by decide)).mono ?_
  rintro e w' ⟨rfl, rfl⟩
  have hg : getV [] 0 8 = 0 := by unfold getV; rw [if_neg (by decide)]
  rw [hg]
  clear hg
  go_wp2
  go_ret2
  exact ⟨rfl, rfl⟩
end Go.Proofs.Ytenbpbnffnodhaa
