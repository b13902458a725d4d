/- What comes in, opened by its shape: numbers, truth values, slices of these, structs of these, to any depth. -/
import Derived.Test.YtjijniillehfoaaBase
import Derived.ProofKit
import Derived.OpenShut
import Derived.Deep.Slices
namespace Go.Own
open Go Go.RowKit Go.ChangeShapes Go.WideShapes
/-- A shape; a struct is its fields, one behind the other. -/
inductive Sh where
  | int (k : IntKind)
  | bool
  | sl (s : Sh)
  | nil
  | cons (s r : Sh)
def Sh.width : Sh → Nat
  | .int _ => 1
  | .bool => 1
  | .sl _ => 1
  | .nil => 0
  | .cons s r => s.width + r.width
/-- These cells read as the shape. -/
def Rd (w : World) : Sh → List Value → Prop
  | .int k, cs => ∃ x, cs = [.int k x] ∧ (Lit.int k x).wf = true
  | .bool, cs => ∃ b, cs = [.bool b]
  | .sl s, cs => ∃ (a : Option Addr) (n c : Nat) (rows : List (List Value)), cs = [.slice a n c] ∧ rows.length = n ∧ (∀ r ∈ rows, r.length = s.width ∧ Rd w s r) ∧ Sl w a n c s.width rows.flatten
  | .nil, cs => cs = []
  | .cons s r, cs => ∃ x y, cs = x ++ y ∧ x.length = s.width ∧ Rd w s x ∧ Rd w r y
theorem flatten_at {z : Nat} {v : Value} : ∀ (rows : List (List Value)) (i : Nat), (∀ r ∈ rows, r.length = z) → rows.flatten[i]? = some v →
    ∃ k j r, i = k * z + j ∧ j < z ∧ rows[k]? = some r ∧ r[j]? = some v
  | [], i, _, h => by simp at h
  | r :: rows, i, hr, h => by
    have hz := hr r (List.mem_cons_self ..)
    rw [List.flatten_cons] at h
    by_cases hi : i < z
    · rw [List.getElem?_append_left (by omega)] at h
      exact ⟨0, i, r, by omega, hi, rfl, h⟩
    · rw [List.getElem?_append_right (by omega), hz] at h
      obtain ⟨k, j, r', e, hj, h1, h2⟩ := flatten_at rows (i - z) (fun r h => hr r (List.mem_cons_of_mem _ h)) h
      exact ⟨k + 1, j, r', by rw [Nat.succ_mul]; omega, hj, by simpa using h1, h2⟩
theorem flatten_len {z : Nat} : ∀ (rows : List (List Value)), (∀ r ∈ rows, r.length = z) → rows.flatten.length = rows.length * z
  | [], _ => by simp
  | r :: rows, hr => by
    rw [List.flatten_cons, List.length_append, flatten_len rows (fun r h => hr r (List.mem_cons_of_mem _ h)), hr r (List.mem_cons_self ..), List.length_cons, Nat.succ_mul]; omega
/-- What reads as a type's datum reads as the shape. -/
def Opens (P : Program) (t : TypeId) (s : Sh) : Prop := ∀ (H : Type) (enc : TypeId × Value → H) (w : World) (fuel : Nat) (cs : List Value) (x : DataW H × List MemPlace),
  DataW.trod enc P w 0 (fun _ => true) true fuel t cs = some x → Rd w s cs ∧ cs.length = s.width
def OpensF (P : Program) (fs : List Field) (o : Nat) (s : Sh) : Prop := ∀ (H : Type) (enc : TypeId × Value → H) (w : World) (fuel : Nat) (cs : List Value),
  (∀ f ∈ fs, ∃ x, DataW.trod enc P w 0 (fun _ => true) true fuel f.type ((cs.drop f.offset).take (P.cellsOf f.type)) = some x) → cs.length = o + s.width → Rd w s (cs.drop o)
theorem opens_int {P : Program} {t : TypeId} {k : IntKind} (ht : P.underlying t = some (.int k)) : Opens P t (.int k) := by
  intro H enc w fuel cs x h
  obtain ⟨n, rfl, _, hn⟩ := DataW.trod_int ht h
  exact ⟨⟨n, rfl, hn⟩, rfl⟩
theorem opens_bool {P : Program} {t : TypeId} (ht : P.underlying t = some .bool) : Opens P t .bool := by
  intro H enc w fuel cs x h
  obtain ⟨b, rfl, _⟩ := DataW.trod_bool ht h
  exact ⟨⟨b, rfl⟩, rfl⟩
theorem spot_none {w : World} {a : Addr} {v : Value} (h : w.cell? a = some v) : a.spot = none := by
  obtain ⟨b, o, sp⟩ := a
  cases sp with
  | none => rfl
  | some s => exfalso; revert h; simp only [World.cell?]; split <;> simp
theorem add_none (b o q : Nat) : (⟨b, o, none⟩ : Addr).add q = ⟨b, o + q, none⟩ := by unfold Addr.add; split <;> simp_all
theorem opens_sl {P : Program} {t e : TypeId} {s : Sh} (ht : P.underlying t = some (.slice e)) (hc : P.cellsOf e = s.width) (he : Opens P e s) : Opens P t (.sl s) := by
  intro H enc w fuel cs x h
  rcases Deep.open_slice ht h with ⟨rfl, _⟩ | ⟨a, len, cap, m, n, D, Pl, rfl, _, hl, hm, hmm, _, hi⟩
  · exact ⟨⟨none, 0, 0, [], rfl, rfl, (fun r h => by cases h), Sl.nil w _⟩, rfl⟩
  · obtain rfl : m = cap := by simpa using hmm
    rw [hc] at hi
    obtain ⟨f, hf⟩ := Deep.choose_lt (n := m) (p := fun i cs' => w.cells? 0 (a.add (i * s.width)) s.width = some cs' ∧ DataW.trod enc P w 0 (fun _ => true) true n e cs' = some (D i, Pl i)) hi
    have hrow : ∀ r ∈ (List.range len).map f, r.length = s.width ∧ Rd w s r := by
      intro r hr
      obtain ⟨i, hi', rfl⟩ := List.mem_map.1 hr
      have hi' := List.mem_range.1 hi'
      obtain ⟨h1, h2⟩ := he H enc w n (f i) _ (hf i (by omega)).2
      exact ⟨h2, h1⟩
    refine ⟨⟨some a, len, m, (List.range len).map f, rfl, by simp, hrow, ?_⟩, rfl⟩
    refine ⟨by rw [flatten_len _ fun r hr => (hrow r hr).1]; simp, hl, by unfold maxLen at hm; omega, (fun h => by cases h), fun i v hv => ?_⟩
    obtain ⟨k, j, r, rfl, hj, h1, h2⟩ := flatten_at _ i (fun r hr => (hrow r hr).1) hv
    have hk : k < len := by
      have := (List.getElem?_eq_some_iff.1 h1).1
      simpa using this
    obtain rfl : r = f k := by
      rw [List.getElem?_map, List.getElem?_range hk] at h1
      simpa using h1.symm
    obtain ⟨_, hlen, hat⟩ := World.cells?_some (hf k (by omega)).1
    have hcell := hat j hj
    rw [Deep.add_add, h2] at hcell
    obtain ⟨_, _, hat0⟩ := World.cells?_some (hf 0 (by omega)).1
    have h00 := spot_none (v := (f 0)[0]'(by have := (hrow (f 0) (List.mem_map.2 ⟨0, List.mem_range.2 (by omega), rfl⟩)).1; omega)) (by
      have := hat0 0 (by omega)
      rw [Deep.add_add, Nat.zero_mul, List.getElem?_eq_getElem] at this
      exact this)
    obtain ⟨b, o, sp⟩ := a
    have hs : sp = none := by simpa [Addr.add] using h00
    subst hs
    refine ⟨b, o, rfl, ?_⟩
    rw [add_none] at hcell
    exact hcell
theorem opens_st {P : Program} {t : TypeId} {fs : Array Field} {s : Sh} (ht : P.underlying t = some (.struct fs)) (hc : P.cellsOf t = s.width) (hf : OpensF P fs.toList 0 s) : Opens P t s := by
  intro H enc w fuel cs x h
  obtain ⟨xs, n, _, _, hl, hxl, hg⟩ := DataW.trod_struct ht h
  have := hf H enc w n cs (fun f hm => by
    obtain ⟨i, hi, he⟩ := List.getElem_of_mem hm
    have hi' : i < fs.size := by simpa using hi
    have h1 := hg i f (by rw [Array.getElem?_eq_getElem hi']; simpa using he)
    exact ⟨xs[i]'(by omega), h1.trans (List.getElem?_eq_getElem (by omega))⟩) (by rw [hl, hc]; omega)
  exact ⟨by simpa using this, by rw [hl, hc]⟩
theorem openF_nil {P : Program} {o : Nat} : OpensF P [] o .nil := by
  intro H enc w fuel cs _ hl
  exact List.drop_eq_nil_of_le (by simp [Sh.width] at hl; omega)
theorem openF_cons {P : Program} {f : Field} {fs : List Field} {o : Nat} {s r : Sh} (ho : f.offset = o) (hc : P.cellsOf f.type = s.width) (h : Opens P f.type s) (hr : OpensF P fs (o + s.width) r) : OpensF P (f :: fs) o (.cons s r) := by
  intro H enc w fuel cs hfs hl
  simp only [Sh.width] at hl
  obtain ⟨x, hx⟩ := hfs f (List.mem_cons_self ..)
  rw [ho, hc] at hx
  obtain ⟨h1, h2⟩ := h H enc w fuel _ x hx
  have h3 := hr H enc w fuel cs (fun f' hf' => hfs f' (List.mem_cons_of_mem _ hf')) (by omega)
  refine ⟨_, _, ?_, h2, h1, h3⟩
  rw [← List.drop_drop, List.take_append_drop]
theorem exists_map {α : Type} {f : α → List Value} {p : α → Prop} : ∀ (rows : List (List Value)), (∀ r ∈ rows, ∃ d, r = f d ∧ p d) → ∃ ds : List α, rows = ds.map f ∧ ∀ d ∈ ds, p d
  | [], _ => ⟨[], rfl, fun d h => by cases h⟩
  | r :: rows, h => by
    obtain ⟨d, rfl, hd⟩ := h r (List.mem_cons_self ..)
    obtain ⟨ds, rfl, hds⟩ := exists_map rows fun r hr => h r (List.mem_cons_of_mem _ hr)
    exact ⟨d :: ds, rfl, fun x hx => by rcases List.mem_cons.1 hx with rfl | hx; exact hd; exact hds x hx⟩
theorem flatten_one {α : Type} (f : α → Value) (ds : List α) : (ds.map fun d => [f d]).flatten = ds.map f := by
  induction ds with
  | nil => rfl
  | cons d ds ih => simp [ih]
/-- A slice of bytes. -/
theorem Rd.bytes {w : World} {a : Option Addr} {n c : Nat} (h : Rd w (.sl (.int .u8)) [.slice a n c]) : ∃ l, Bs w a n c l := by
  obtain ⟨a', n', c', rows, he, hn, hr, hs⟩ := h
  cases he
  obtain ⟨ds, rfl, _⟩ := exists_map (f := fun x : UInt8 => [bv x]) (p := fun _ => True) rows fun r hr' => by
    obtain ⟨_, x, rfl, hx⟩ := hr r hr'
    simp [Lit.wf, IntKind.min, IntKind.max, IntKind.bits, IntKind.signed] at hx
    refine ⟨UInt8.ofNat x.toNat, ?_, trivial⟩
    rw [bv_nat]
    congr 2
    omega
  exact ⟨ds, by rw [flatten_one] at hs; exact hs⟩
/-- The slice value reads as these numbers. -/
def Is (w : World) (k : IntKind) (a : Option Addr) (n c : Nat) (l : List Int) : Prop := Sl w a n c 1 (l.map (.int k ·)) ∧ ∀ x ∈ l, (Lit.int k x).wf = true
theorem Rd.ints {w : World} {k : IntKind} {a : Option Addr} {n c : Nat} (h : Rd w (.sl (.int k)) [.slice a n c]) : ∃ l, Is w k a n c l := by
  obtain ⟨a', n', c', rows, he, hn, hr, hs⟩ := h
  cases he
  obtain ⟨ds, rfl, hd⟩ := exists_map (f := fun x : Int => [.int k x]) (p := fun x => (Lit.int k x).wf = true) rows fun r hr' => (hr r hr').2
  exact ⟨ds, by rw [flatten_one] at hs; exact hs, hd⟩
/-- The slice value reads as these truth values. -/
def Ts (w : World) (a : Option Addr) (n c : Nat) (l : List Bool) : Prop := Sl w a n c 1 (l.map (.bool ·))
theorem Rd.bools {w : World} {a : Option Addr} {n c : Nat} (h : Rd w (.sl .bool) [.slice a n c]) : ∃ l, Ts w a n c l := by
  obtain ⟨a', n', c', rows, he, hn, hr, hs⟩ := h
  cases he
  obtain ⟨ds, rfl, _⟩ := exists_map (f := fun x : Bool => [.bool x]) (p := fun _ => True) rows fun r hr' => by
    obtain ⟨_, x, rfl⟩ := hr r hr'
    exact ⟨x, rfl, trivial⟩
  exact ⟨ds, by rw [flatten_one] at hs; exact hs⟩
/-- The one cell of a slice. -/
theorem Rd.slice {w : World} {s : Sh} {cs : List Value} (h : Rd w (.sl s) cs) : ∃ a n c, cs = [.slice a n c] ∧ Rd w (.sl s) [.slice a n c] := by
  obtain ⟨a, n, c, rows, rfl, h⟩ := h
  exact ⟨a, n, c, rfl, a, n, c, rows, rfl, h⟩
end Go.Own
