/- Texts of the proof of 'AllocPlays', part 2: words on memory, contracts of functions, plain laws. No condition. -/
import Derived.Test.YtenbpbnffnodhaaMgAllocPlays1
import Derived.Maps.AppendAt
import Derived.Laws.OwnMore
import Derived.WalkKit
import Derived.Shelf.Small.Bits
import Derived.Shelf.Strconv.Itoa0
import Derived.Test.YtenbpbnffnodhaaProg
/- Things in memory, side by side, each with blocks of its own: what one step does to one of them leaves the others. -/
namespace Go.Own
open Go Go.RowKit
/-- A kind of thing in memory: of a world and of its blocks. 'm': it may be turned, so its blocks are none of those that were there at first. -/
structure Ob where
  m : Bool
  p : World → (Nat → Prop) → Prop
  lt : ∀ {w : World} {F : Nat → Prop}, p w F → ∀ k, F k → k < w.heap.size
  kept : ∀ {w w' : World} {F G : Nat → Prop}, p w F → Keep G w w' → (∀ k, F k → ¬ G k) → p w' F
/-- All of these. U true: blocks of things that may be turned, ahead of these; U false: of things that are only read. What may be turned has no block in common with anything else. -/
def SL (B : Nat) (w : World) : List Ob → (Bool → Nat → Prop) → Prop
  | [], _ => True
  | P :: r, U => ∃ F, P.p w F ∧ (∀ k, F k → ¬ U true k ∧ (P.m = true → ¬ U false k ∧ B ≤ k)) ∧ SL B w r (fun m k => U m k ∨ (m = P.m ∧ F k))
theorem SL.move {B : Nat} {w w' : World} {G : Nat → Prop} (k : Keep G w w') : ∀ {l : List Ob} {U U' : Bool → Nat → Prop}, SL B w l U → (∀ x, G x → U true x) → (∀ m x, U' m x → U m x ∨ U true x ∨ w.heap.size ≤ x) → SL B w' l U'
  | [], _, _, _, _, _ => trivial
  | P :: r, U, U', h, hG, hU => by
    obtain ⟨F, h1, h2, h4⟩ := h
    refine ⟨F, P.kept h1 k fun x hx hg => (h2 x hx).1 (hG x hg), fun x hx => ⟨fun hu => ?_, fun hm => ⟨fun hu => ?_, ((h2 x hx).2 hm).2⟩⟩, SL.move k h4 (fun x hx => .inl (hG x hx)) (fun m x hx => ?_)⟩
    · rcases hU true x hu with h | h | h
      · exact (h2 x hx).1 h
      · exact (h2 x hx).1 h
      · have := P.lt h1 x hx; omega
    · rcases hU false x hu with h | h | h
      · exact ((h2 x hx).2 hm).1 h
      · exact (h2 x hx).1 h
      · have := P.lt h1 x hx; omega
    · rcases hx with hx | hx
      · rcases hU m x hx with h | h | h
        · exact .inl (.inl h)
        · exact .inr (.inl (.inl h))
        · exact .inr (.inr h)
      · exact .inl (.inr hx)
/-- One of them, and what may become of it. -/
theorem SL.at {B : Nat} {w : World} (hB : B ≤ w.heap.size) : ∀ {l : List Ob} {U : Bool → Nat → Prop} {i : Nat} {P : Ob}, SL B w l U → (∀ m x, U m x → x < w.heap.size) → l[i]? = some P →
    ∃ F, P.p w F ∧ (∀ x, F x → ¬ U true x ∧ (P.m = true → ¬ U false x ∧ B ≤ x)) ∧ ∀ (w' : World) (F' : Nat → Prop) (P' : Ob), (P'.m = true → P.m = true) → Keep (fun x => P.m = true ∧ F x) w w' → P'.p w' F' → (∀ x, F' x → F x ∨ w.heap.size ≤ x) → SL B w' (l.set i P') U
  | [], _, _, _, _, _, hi => by simp at hi
  | P0 :: r, U, 0, P, h, hU, hi => by
    obtain ⟨F, h1, h2, h4⟩ := h
    simp only [List.getElem?_cons_zero, Option.some.injEq] at hi
    subst hi
    refine ⟨F, h1, h2, fun w' F' P' hm k hp hF => ⟨F', hp, fun x hx => ⟨fun hu => ?_, fun hm' => ⟨fun hu => ?_, ?_⟩⟩, SL.move k h4 (fun x hx => .inr ⟨hx.1.symm, hx.2⟩) (fun m x hx => ?_)⟩⟩
    · rcases hF x hx with h | h
      · exact (h2 x h).1 hu
      · have := hU true x hu; omega
    · rcases hF x hx with h | h
      · exact ((h2 x h).2 (hm hm')).1 hu
      · have := hU false x hu; omega
    · rcases hF x hx with h | h
      · exact ((h2 x h).2 (hm hm')).2
      · omega
    · rcases hx with hx | ⟨rfl, hx⟩
      · exact .inl (.inl hx)
      · rcases hF x hx with h | h
        · cases hpm : P0.m with
          | true => exact .inr (.inl (.inr ⟨rfl, h⟩))
          | false =>
            cases hpm' : P'.m with
            | true => rw [hm hpm'] at hpm; cases hpm
            | false => exact .inl (.inr ⟨rfl, h⟩)
        · exact .inr (.inr h)
  | P0 :: r, U, i + 1, P, h, hU, hi => by
    obtain ⟨F0, h1, h2, h4⟩ := h
    rw [List.getElem?_cons_succ] at hi
    obtain ⟨F, a1, a2, a4⟩ := SL.at hB h4 (fun m x hx => hx.elim (hU m x) fun h => P0.lt h1 x h.2) hi
    refine ⟨F, a1, fun x hx => ⟨fun hu => (a2 x hx).1 (.inl hu), fun hm => ⟨fun hu => ((a2 x hx).2 hm).1 (.inl hu), ((a2 x hx).2 hm).2⟩⟩, fun w' F' P' hm k hp hF => ⟨F0, P0.kept h1 k fun x hx hf => ?_, h2, a4 w' F' P' hm k hp hF⟩⟩
    obtain ⟨hfm, hf⟩ := hf
    cases hpm : P0.m with
    | true => exact (a2 x hf).1 (.inr ⟨hpm.symm, hx⟩)
    | false => exact ((a2 x hf).2 hfm).1 (.inr ⟨hpm.symm, hx⟩)
theorem SL.mono {B : Nat} {w : World} : ∀ {l : List Ob} {U U' : Bool → Nat → Prop}, SL B w l U → (∀ m x, U' m x → U m x ∨ U true x) → SL B w l U'
  | [], _, _, _, _ => trivial
  | P :: r, U, U', h, hU => by
    obtain ⟨F, h1, h2, h4⟩ := h
    refine ⟨F, h1, fun x hx => ⟨fun hu => (h2 x hx).1 ((hU true x hu).elim id id), fun hm => ⟨fun hu => (hU false x hu).elim ((h2 x hx).2 hm).1 (h2 x hx).1, ((h2 x hx).2 hm).2⟩⟩, SL.mono h4 fun m x hx => ?_⟩
    rcases hx with hx | hx
    · exact (hU m x hx).imp .inl .inl
    · exact .inl (.inr hx)
/-- Fewer of them, in the same order. -/
theorem SL.sub {B : Nat} {w : World} {l l' : List Ob} (hs : l'.Sublist l) : ∀ {U : Bool → Nat → Prop}, SL B w l U → SL B w l' U := by
  induction hs with
  | slnil => intro U _; exact trivial
  | cons a _ ih =>
    intro U h
    obtain ⟨F, h1, h2, h4⟩ := h
    exact ih (SL.mono h4 fun m x hx => .inl (.inl hx))
  | cons_cons a _ ih =>
    intro U h
    obtain ⟨F, h1, h2, h4⟩ := h
    exact ⟨F, h1, h2, ih h4⟩
theorem SL.swap {B : Nat} {w : World} {P Q : Ob} {r : List Ob} {U : Bool → Nat → Prop} (h : SL B w (P :: Q :: r) U) : SL B w (Q :: P :: r) U := by
  obtain ⟨F, h1, h2, G, g1, g2, h4⟩ := h
  refine ⟨G, g1, fun x hx => ⟨fun hu => (g2 x hx).1 (.inl hu), fun hm => ⟨fun hu => ((g2 x hx).2 hm).1 (.inl hu), ((g2 x hx).2 hm).2⟩⟩, F, h1, fun x hx => ⟨fun hu => ?_, fun hm => ⟨fun hu => ?_, ((h2 x hx).2 hm).2⟩⟩, SL.mono h4 fun m x hx => .inl ?_⟩
  · rcases hu with hu | ⟨hq, hg⟩
    · exact (h2 x hx).1 hu
    · cases hpm : P.m with
      | true => exact (g2 x hg).1 (.inr ⟨hpm.symm, hx⟩)
      | false => exact ((g2 x hg).2 hq.symm).1 (.inr ⟨hpm.symm, hx⟩)
  · rcases hu with hu | ⟨hq, hg⟩
    · exact ((h2 x hx).2 hm).1 hu
    · exact (g2 x hg).1 (.inr ⟨hm.symm, hx⟩)
  · rcases hx with (h | h) | h
    · exact .inl (.inl h)
    · exact .inr h
    · exact .inl (.inr h)
theorem SL.perm {B : Nat} {w : World} {l l' : List Ob} (hs : l.Perm l') : ∀ {U : Bool → Nat → Prop}, SL B w l U → SL B w l' U := by
  induction hs with
  | nil => intro U _; exact trivial
  | cons a _ ih =>
    intro U h
    obtain ⟨F, h1, h2, h4⟩ := h
    exact ⟨F, h1, h2, ih h4⟩
  | swap a b l => intro U h; exact SL.swap h
  | trans _ _ ih1 ih2 => intro U h; exact ih2 (ih1 h)
/-- What is only read, and lies below B, is in nobody's way. -/
theorem SL.low {B : Nat} {w : World} : ∀ {l : List Ob} {U U' : Bool → Nat → Prop}, SL B w l U → (∀ m x, U' m x → U m x ∨ (m = false ∧ x < B)) → SL B w l U'
  | [], _, _, _, _ => trivial
  | P :: r, U, U', h, hU => by
    obtain ⟨F, h1, h2, h4⟩ := h
    refine ⟨F, h1, fun x hx => ⟨fun hu => ?_, fun hm => ⟨fun hu => ?_, ((h2 x hx).2 hm).2⟩⟩, SL.low h4 fun m x hx => ?_⟩
    · rcases hU true x hu with h | ⟨h, _⟩
      · exact (h2 x hx).1 h
      · cases h
    · rcases hU false x hu with h | ⟨_, h⟩
      · exact ((h2 x hx).2 hm).1 h
      · have := ((h2 x hx).2 hm).2; omega
    · rcases hx with hx | hx
      · exact (hU m x hx).imp .inl id
      · exact .inl (.inr hx)
/-- Two of them have no block in common, if one may be turned. -/
theorem SL.apart {B : Nat} {w : World} : ∀ {l : List Ob} {U : Bool → Nat → Prop} {j : Nat} {Q : Ob}, SL B w l U → l[j]? = some Q → ∃ G, Q.p w G ∧ ∀ k, G k → ¬ U true k ∧ (Q.m = true → ¬ U false k)
  | [], _, _, _, _, hj => by simp at hj
  | P0 :: r, U, 0, Q, h, hj => by
    obtain ⟨F, h1, h2, h4⟩ := h
    simp only [List.getElem?_cons_zero, Option.some.injEq] at hj
    subst hj
    exact ⟨F, h1, fun k hk => ⟨(h2 k hk).1, fun hm => ((h2 k hk).2 hm).1⟩⟩
  | P0 :: r, U, j + 1, Q, h, hj => by
    obtain ⟨F, h1, h2, h4⟩ := h
    rw [List.getElem?_cons_succ] at hj
    obtain ⟨G, g1, g2⟩ := SL.apart h4 hj
    exact ⟨G, g1, fun k hk => ⟨fun hu => (g2 k hk).1 (.inl hu), fun hm hu => (g2 k hk).2 hm (.inl hu)⟩⟩
theorem SL.two {B : Nat} {w : World} : ∀ {l : List Ob} {U : Bool → Nat → Prop} {i j : Nat} {P Q : Ob}, SL B w l U → l[i]? = some P → l[j]? = some Q → i < j → (P.m = true ∨ Q.m = true) → ∃ F G, P.p w F ∧ Q.p w G ∧ ∀ k, F k → ¬ G k
  | [], _, _, _, _, _, _, hi, _, _, _ => by simp at hi
  | P0 :: r, U, 0, 0, P, Q, h, hi, hj, hij, _ => by omega
  | P0 :: r, U, i + 1, 0, P, Q, h, hi, hj, hij, _ => by omega
  | P0 :: r, U, 0, j + 1, P, Q, h, hi, hj, hij, hm => by
    obtain ⟨F, h1, h2, h4⟩ := h
    simp only [List.getElem?_cons_zero, Option.some.injEq] at hi
    subst hi
    rw [List.getElem?_cons_succ] at hj
    obtain ⟨G, g1, g2⟩ := SL.apart h4 hj
    refine ⟨F, G, h1, g1, fun k hk hg => ?_⟩
    cases hpm : P0.m with
    | true => exact (g2 k hg).1 (.inr ⟨hpm.symm, hk⟩)
    | false =>
      rcases hm with hm | hm
      · rw [hm] at hpm; cases hpm
      · exact (g2 k hg).2 hm (.inr ⟨hpm.symm, hk⟩)
  | P0 :: r, U, i + 1, j + 1, P, Q, h, hi, hj, hij, hm => by
    obtain ⟨F, h1, h2, h4⟩ := h
    rw [List.getElem?_cons_succ] at hi hj
    exact SL.two h4 hi hj (by omega) hm
/-- What has become of the world w0: nothing below B turned; there are these things. -/
structure St (B : Nat) (w0 w : World) (l : List Ob) : Prop where
  base : B ≤ w0.heap.size
  keep : Keep (fun k => B ≤ k) w0 w
  sl : SL B w l (fun _ _ => False)
theorem St.size {B : Nat} {w0 w : World} {l : List Ob} (h : St B w0 w l) : B ≤ w.heap.size := Nat.le_trans h.base h.keep.size
theorem St.start (w : World) : St w.heap.size w w [] := ⟨Nat.le_refl _, Keep.refl _ _, trivial⟩
theorem St.end {w0 w : World} {l : List Ob} (h : St w0.heap.size w0 w l) : Below w0.heap.size w0 w := h.keep.below (Nat.le_refl _) fun k hk hf => by omega
theorem St.below {B : Nat} {w0 w w' : World} {l : List Ob} (h : St B w0 w l) (k : Below w.heap.size w w') : St B w0 w' l :=
  ⟨h.base, h.keep.trans (Keep.of_below k), SL.move (G := fun _ => False) (Keep.of_below k) h.sl (fun _ h => h.elim) (fun _ _ h => h.elim)⟩
theorem St.drewN {B : Nat} {w0 w : World} {l : List Ob} (h : St B w0 w l) (n : Nat) : St B w0 (w.drewN n) l := h.below (below_drewN (Below.refl _ _) n)
theorem St.drew {B : Nat} {w0 w : World} {l : List Ob} (h : St B w0 w l) : St B w0 w.drew l := h.below ⟨rfl, rfl, rfl, Nat.le_refl _, fun _ _ => rfl⟩
theorem St.alloc {B : Nat} {w0 w : World} {l : List Ob} (h : St B w0 w l) (o : Obj) : St B w0 (w.alloc o) l := h.below ((Below.refl _ _).alloc (Nat.le_refl _) o)
/-- A new thing. -/
theorem St.add {B : Nat} {w0 w w' : World} {l : List Ob} {F : Nat → Prop} {P : Ob} (h : St B w0 w l) (k : Below w.heap.size w w') (hp : P.p w' F) (hF : ∀ x, F x → w.heap.size ≤ x) : St B w0 w' (P :: l) := by
  have h' := h.below k
  refine ⟨h'.base, h'.keep, F, hp, fun x hx => ⟨fun h => h, fun _ => ⟨fun h => h, Nat.le_trans h.size (hF x hx)⟩⟩, SL.move (G := fun _ => False) (Keep.of_below k) h.sl (fun _ h => h.elim) fun m x hx => .inr (.inr ?_)⟩
  rcases hx with hx | hx
  · exact hx.elim
  · exact hF x hx.2
/-- One of them turns, or tells of something. -/
theorem St.at {B : Nat} {w0 w : World} {l : List Ob} {i : Nat} {P : Ob} (h : St B w0 w l) (hi : l[i]? = some P) :
    ∃ F, P.p w F ∧ (∀ x, F x → x < w.heap.size) ∧ (P.m = true → ∀ x, F x → B ≤ x) ∧
      ∀ (w' : World) (F' : Nat → Prop) (P' : Ob), P.m = true → Keep F w w' → P'.p w' F' → (∀ x, F' x → F x ∨ w.heap.size ≤ x) → St B w0 w' (l.set i P') := by
  obtain ⟨F, h1, h3, h4⟩ := SL.at h.size h.sl (fun _ _ h => h.elim) hi
  exact ⟨F, h1, P.lt h1, fun hm x hx => ((h3 x hx).2 hm).2, fun w' F' P' hm k hp hF => ⟨h.base, h.keep.trans (k.mono fun x _ hx => ((h3 x hx).2 hm).2), h4 w' F' P' (fun _ => hm) (k.mono fun x _ hx => ⟨hm, hx⟩) hp hF⟩⟩
theorem St.two {B : Nat} {w0 w : World} {l : List Ob} {i j : Nat} {P Q : Ob} (h : St B w0 w l) (hi : l[i]? = some P) (hj : l[j]? = some Q) (hij : i < j) (hm : P.m = true ∨ Q.m = true := by exact .inl rfl) : ∃ F G, P.p w F ∧ Q.p w G ∧ ∀ k, F k → ¬ G k := SL.two h.sl hi hj hij hm
theorem St.sub {B : Nat} {w0 w : World} {l l' : List Ob} (h : St B w0 w l) (hs : l'.Sublist l) : St B w0 w l' := ⟨h.base, h.keep, SL.sub hs h.sl⟩
theorem St.perm {B : Nat} {w0 w : World} {l l' : List Ob} (h : St B w0 w l) (hs : l.Perm l') : St B w0 w l' := ⟨h.base, h.keep, SL.perm hs h.sl⟩
theorem St.tail {B : Nat} {w0 w : World} {l : List Ob} {P : Ob} (h : St B w0 w (P :: l)) : St B w0 w l := h.sub (List.sublist_cons_self ..)
theorem St.swap {B : Nat} {w0 w : World} {l : List Ob} {P Q : Ob} (h : St B w0 w (P :: Q :: l)) : St B w0 w (Q :: P :: l) := ⟨h.base, h.keep, SL.swap h.sl⟩
/-- What lay below B reads as it did. -/
theorem St.bs {B : Nat} {w0 w : World} {l : List Ob} (h : St B w0 w l) {a : Option Addr} {n c : Nat} {b : List UInt8} (hb : Bs w0 a n c b) (ha : ∀ q, a = some q → 0 < b.length → q.block < B) : Bs w a n c b where
  len := Sl.len hb
  cap := Sl.cap hb
  room := Sl.room hb
  nilcap := Sl.nilcap hb
  cells := fun i v hi => by
    obtain ⟨b', o, e, hc⟩ := Sl.cells hb i v hi
    have hl : 0 < b.length := by
      have := (List.getElem?_eq_some_iff.1 hi).1
      simp at this; omega
    refine ⟨b', o, e, ?_⟩
    rw [cell_of_block (w := w0) (p := ⟨b', o + i, none⟩) (h.keep.block b' (World.block_lt_of_cell? w0 _ hc) (by have := ha _ e hl; show ¬ B ≤ b'; simp at this; omega))]
    exact hc
/-- A row of one's own: a slice that may be appended to. -/
def OwO (e : TypeId) (z : Nat) (v : Value) (n : Nat) (cs : List Value) : Ob where
  m := true
  p := fun w F => w.ownsRow 0 e z v n cs ∧ (∀ g, v.ownBlock = some g → F g) ∧ ∀ k, F k → k < w.heap.size
  lt := fun h => h.2.2
  kept := fun {w w' F G} h k hd => ⟨own_kept h.1 k fun g hg => hd g (h.2.1 g hg), h.2.1, fun x hx => Nat.lt_of_lt_of_le (h.2.2 x hx) k.size⟩
/-- A variable, or a struct behind a pointer. -/
def RowO (b : Nat) (e : TypeId) (cs : List Value) : Ob where
  m := true
  p := fun w F => Row w b e cs ∧ F b ∧ ∀ k, F k → k < w.heap.size
  lt := fun h => h.2.2
  kept := fun {w w' F G} h k hd => ⟨h.1.keep k (hd b h.2.1), h.2.1, fun x hx => Nat.lt_of_lt_of_le (h.2.2 x hx) k.size⟩
/-- An arena. -/
def ArO (T e : TypeId) (p : Nat) (A : Ar) : Ob where
  m := true
  p := fun w F => ∃ v, ArAt T e w p A v ∧ (∀ k, arF p v k → F k) ∧ ∀ k, F k → k < w.heap.size
  lt := fun ⟨_, h⟩ => h.2.2
  kept := fun {w w' F G} ⟨v, h⟩ k hd => ⟨v, h.1.kept k fun x hx => hd x (h.2.1 x hx), h.2.1, fun x hx => Nat.lt_of_lt_of_le (h.2.2 x hx) k.size⟩
theorem St.row {B : Nat} {w0 w : World} {l : List Ob} {i : Nat} {b : Nat} {e : TypeId} {cs : List Value} (h : St B w0 w l) (hi : l[i]? = some (RowO b e cs)) : Row w b e cs := by
  obtain ⟨F, h1, _⟩ := h.at hi
  exact h1.1
theorem St.own {B : Nat} {w0 w : World} {l : List Ob} {i : Nat} {e : TypeId} {z : Nat} {v : Value} {n : Nat} {cs : List Value} (h : St B w0 w l) (hi : l[i]? = some (OwO e z v n cs)) : w.ownsRow 0 e z v n cs := by
  obtain ⟨F, h1, _⟩ := h.at hi
  exact h1.1
theorem St.ar {B : Nat} {w0 w : World} {l : List Ob} {i : Nat} {T e : TypeId} {p : Nat} {A : Ar} (h : St B w0 w l) (hi : l[i]? = some (ArO T e p A)) : ∃ v, ArAt T e w p A v := by
  obtain ⟨F, ⟨v, h1⟩, _⟩ := h.at hi
  exact ⟨v, h1.1⟩
/-- An arena that turns. -/
theorem St.arTo {B : Nat} {w0 w : World} {l : List Ob} {i : Nat} {T e : TypeId} {p : Nat} {A : Ar} (h : St B w0 w l) (hi : l[i]? = some (ArO T e p A)) :
    ∃ v, ArAt T e w p A v ∧ ∀ (w' : World) (A' : Ar) (v' : Value), ArAt T e w' p A' v' → Keep (arF p v) w w' → (v'.ownBlock = v.ownBlock ∨ v'.ownBlock = some w.heap.size) → St B w0 w' (l.set i (ArO T e p A')) := by
  obtain ⟨F, ⟨v, h1, h2, h3⟩, _, _, h4⟩ := h.at hi
  refine ⟨v, h1, fun w' A' v' ha k hv => h4 w' (arF p v') _ rfl (k.mono fun x _ hx => h2 x hx) ⟨v', ha, fun _ h => h, fun x hx => ha.lt hx⟩ fun x hx => ?_⟩
  rcases hx with rfl | hx
  · exact .inl (h2 _ (.inl rfl))
  · rcases hv with hv | hv
    · exact .inl (h2 _ (.inr (by rw [← hv]; exact hx)))
    · rw [hv] at hx; cases hx; exact .inr (Nat.le_refl _)
/-- A new row of one's own. -/
theorem St.addOwn {B : Nat} {w0 w w' : World} {l : List Ob} {e : TypeId} {z : Nat} {v : Value} {n : Nat} {cs : List Value} (h : St B w0 w l) (k : Below w.heap.size w w') (hp : w'.ownsRow w.heap.size e z v n cs) : St B w0 w' (OwO e z v n cs :: l) :=
  h.add (F := fun x => v.ownBlock = some x) k ⟨own_base hp (Nat.zero_le _), fun _ h => h, fun x hx => (own_block_lt hp hx).2⟩ fun x hx => (own_block_lt hp hx).1
theorem St.addRow {B : Nat} {w0 w : World} {l : List Ob} (h : St B w0 w l) (e : TypeId) (cs : List Value) : St B w0 (w.alloc (.cells cs.toArray e (0, 0))) (RowO w.heap.size e cs :: l) :=
  h.add (F := fun x => x = w.heap.size) ((Below.refl _ _).alloc (Nat.le_refl _) _) ⟨Row.made _ _ _, rfl, fun x hx => by rw [hx]; simp⟩ fun x hx => by rw [hx]; exact Nat.le_refl _
end Go.Own

/- The arena's contracts, all cases in one, beside whatever else there is. -/
namespace Go.Proofs.Ytenbpbnffnodhaa
open Go Go.RowKit Go.Own
set_option linter.unusedVariables false
abbrev ArT (p : Nat) (A : Ar) : Ob := ArO 199 5 p A
abbrev OwB (v : Value) (b : List UInt8) : Ob := OwO 5 1 v b.length (b.map bv)
section
variable {B : Nat} {w0 w : World} {l : List Ob} {i p : Nat} {A : Ar}
theorem errV_0 : errV 0 = .nilIface := by unfold errV; rw [if_pos rfl]
theorem ar_Base (h : St B w0 w l) (hi : l[i]? = some (ArT p A)) : Calls Try.prog 46 #[arP p] w fun e w' => e = .returned (.int .u64 A.base) ∧ w = w' := by
  obtain ⟨v, ha⟩ := h.ar hi
  exact arena_Base w p A v ha
theorem ar_Len (h : St B w0 w l) (hi : l[i]? = some (ArT p A)) : Calls Try.prog 44 #[arP p] w fun e w' => e = .returned (.int .i64 A.b.length) ∧ w = w' := by
  obtain ⟨v, ha⟩ := h.ar hi
  exact arena_Len w p A v ha
theorem ar_Cap (h : St B w0 w l) (hi : l[i]? = some (ArT p A)) : Calls Try.prog 45 #[arP p] w fun e w' => e = .returned (.int .i64 A.cap) ∧ w = w' := by
  obtain ⟨v, ha⟩ := h.ar hi
  exact arena_Cap w p A v ha
/-- The word at an offset that is there. -/
theorem ar_WordAt (h : St B w0 w l) (hi : l[i]? = some (ArT p A)) (addr : Int) (o : Nat) (ho : addr = A.base + o) (hf : o + 8 ≤ A.b.length) :
    Calls Try.prog 146 #[arP p, .int .u64 addr] w fun e w' => e = .returned (.tuple #[.int .u64 (numAt A.b o : Nat), .nilIface]) ∧ w = w' := by
  obtain ⟨v, ha⟩ := h.ar hi
  exact arena_Word_ok w p A v ha addr o ho hf
theorem ar_WordNo (h : St B w0 w l) (hi : l[i]? = some (ArT p A)) (addr : Int) (o : Nat) (ho : addr = A.base + o) (h2 : o ≤ 1000000) (hf : A.b.length < o + 8) :
    Calls Try.prog 146 #[arP p, .int .u64 addr] w fun e w' => e = .returned (.tuple #[.int .u64 0, .iface 183 (.int .i64 2)]) ∧ w = w' := by
  obtain ⟨v, ha⟩ := h.ar hi
  have hb := ha.hbase
  exact arena_Word_bad w p A v ha addr (by omega) (by omega) (by omega)
/-- A word laid at an offset that is there. -/
theorem ar_SetAt (h : St B w0 w l) (hi : l[i]? = some (ArT p A)) (addr : Int) (o : Nat) (ho : addr = A.base + o) (hf : o + 8 ≤ A.b.length) (x : Int) (X : Nat) (hx : x = X) (hX : X < 18446744073709551616) :
    Calls Try.prog 138 #[arP p, .int .u64 addr, .int .u64 x] w fun e w' => e = .returned .nilIface ∧ St B w0 w' (l.set i (ArT p { A with b := layAt A.b o X })) := by
  obtain ⟨v, ha, hto⟩ := h.arTo hi
  refine (arena_SetWord_ok w p A v ha addr o ho x X hx hX hf).mono ?_
  rintro e w' ⟨rfl, h2, k2⟩
  exact ⟨rfl, hto w' _ v h2 (k2.mono fun _ _ h => .inr h) (.inl rfl)⟩
theorem ar_Grow (h : St B w0 w l) (hi : l[i]? = some (ArT p A)) (n : Int) :
    Calls Try.prog 137 #[arP p, .int .i64 n] w fun e w' => e = .returned (errV (A.grow n).1) ∧ St B w0 w' (l.set i (ArT p (A.grow n).2)) := by
  obtain ⟨v, ha, hto⟩ := h.arTo hi
  unfold Ar.grow
  split
  · rename_i ht
    refine (arena_Grow_neg w p n ht).mono ?_
    rintro e w' ⟨rfl, hb⟩
    exact ⟨rfl, hto w' _ v (ha.below hb) (Keep.of_below hb) (.inl rfl)⟩
  · rename_i ht
    split
    · rename_i hc
      refine (arena_Grow_full w p A v ha n (by omega) hc).mono ?_
      rintro e w' ⟨rfl, hb⟩
      exact ⟨rfl, hto w' _ v (ha.below hb) (Keep.of_below hb) (.inl rfl)⟩
    · rename_i hc
      refine (arena_Grow_ok w p A v ha n n.toNat (by omega) (by omega)).mono ?_
      rintro e w' ⟨v', rfl, h2, k2, g2⟩
      exact ⟨rfl, hto w' _ v' h2 k2 g2⟩
/-- A new arena. -/
def NewA (B : Nat) (w0 : World) (l : List Ob) (A : Ar) (e : Ending) (w' : World) : Prop := ∃ q, e = .returned (arP q) ∧ St B w0 w' (ArT q A :: l)
theorem made_St {A' : Ar} (h : St B w0 w l) {e : Ending} {w' : World} (hm : MadeAr A' w e w') : NewA B w0 l A' e w' := by
  obtain ⟨q, v, rfl, ha, hF, hb⟩ := hm
  exact ⟨q, rfl, h.add (F := arF q v) hb ⟨v, ha, fun _ h => h, fun x hx => ha.lt hx⟩ hF⟩
theorem ar_Arena (h : St B w0 w l) (b : Int) (bn : Nat) (hB : b = bn) (c : Int) (C : Nat) (hC : c = C) (h1 : bn % 16 = 0) (h2 : bn ≤ 4611686018427387904) (h3 : 1024 ≤ C) (h4 : C ≤ 16384)
    (a : Option Addr) (n cp : Nat) (x : List UInt8) (hb : Bs w a n cp x) (hl : x.length ≤ C) : Calls Try.prog 59 #[.int .u64 b, .int .i64 c, .slice a n cp] w (NewA B w0 l ⟨bn, C, x⟩) :=
  (law_Arena w b bn hB c C hC h1 h2 h3 h4 a n cp x hb hl).mono fun e w' hm => made_St h hm
end
end Go.Proofs.Ytenbpbnffnodhaa

/- 'append' onto a row of one's own: just that row turns, and where the new one lies. -/
namespace Go.Own
open Go Go.RowKit
theorem add_none' (b o q : Nat) : (⟨b, o, none⟩ : Addr).add q = ⟨b, o + q, none⟩ := by unfold Addr.add; split <;> simp_all
section
variable {P : Program}
theorem run_app {w : World} (base : Nat) (t ty e : TypeId) (z : Value) (size bytes : Nat) (ht : P.underlying t = some (.slice e)) (hi : Info P e z size bytes) (hzs : z.cells.size = size) (hsz : 0 < size)
    (v : Value) (n : Nat) (xs : List Value) (hown : w.ownsRow base e size v n xs) (ad : Option Addr) (m c : Nat) (news : List Value) (hb : Sl w ad m c size news) (h1 : ∀ u ∈ news, u.oneCell' = true)
    (hbytes : (n + m) * bytes ≤ 140737488355328) (h63 : n + m ≤ 9223372036854775807) (hbase : base ≤ w.heap.size) :
    ∃ v' w', (Builtin.append_ #[t, t] ty #[v, .slice ad m c]).run P w = .ok v' w' ∧ w'.ownsRow base e size v' (n + m) (xs ++ news) ∧ Keep (fun k => v.ownBlock = some k) w w' ∧ (v'.ownBlock = v.ownBlock ∨ v'.ownBlock = some w.heap.size) := by
  obtain ⟨i, hi, hz, his, hib⟩ := hi.parts
  cases ad with
  | none =>
    have hc := hb.nilcap rfl
    have hcap := hb.cap
    obtain rfl : m = 0 := by omega
    subst hc
    have hnil : news = [] := List.eq_nil_of_length_eq_zero (by simpa using hb.len)
    subst hnil
    exact ⟨v, w, run_append_owned_none (P := P) w base t ty e i size ht hi v n xs hown, by simpa using hown, Keep.refl _ _, .inl rfl⟩
  | some p =>
    obtain ⟨v', w', hrun, h2, h3, _, h5⟩ := run_append_own_at (P := P) w base t ty e i z size bytes ht hi hz his hib hzs hsz v n xs hown p m c news hb.len (fun j u hj => by
      obtain ⟨b, o, e1, hc⟩ := hb.cells j u hj
      cases e1
      rw [add_none']; exact hc) h1 (by simp only [maxLen]; exact h63) hbytes hbase
    exact ⟨v', w', hrun, h2, ⟨h3.os, h3.tape, h3.output, h3.size, fun k hk hne => h3.block k hk fun e => hne e.symm⟩, h5⟩
/-- At an operation. -/
theorem app_at {w : World} {o : Oper} {a : Act} {K : Act → World → Prop} {Q : Exit → Act → World → Prop} (s x : Operand) (t : TypeId)
    (ho : o.op = .call { callee := .builtin .append, args := #[s, x], argTypes := #[t, t] })
    (base : Nat) (e : TypeId) (z : Value) (size bytes : Nat) (ht : P.underlying t = some (.slice e)) (hi : Info P e z size bytes) (hzs : z.cells.size = size) (hsz : 0 < size)
    (v : Value) (n : Nat) (xs : List Value) (hs : a.eval s = v) (hown : w.ownsRow base e size v n xs)
    (ad : Option Addr) (m c : Nat) (news : List Value) (hx : a.eval x = .slice ad m c) (hb : Sl w ad m c size news) (h1 : ∀ u ∈ news, u.oneCell' = true)
    (hbytes : (n + m) * bytes ≤ 140737488355328) (h63 : n + m ≤ 9223372036854775807) (hbase : base ≤ w.heap.size)
    (h : ∀ v' w', w'.ownsRow base e size v' (n + m) (xs ++ news) → Keep (fun k => v.ownBlock = some k) w w' → (v'.ownBlock = v.ownBlock ∨ v'.ownBlock = some w.heap.size) → K (a.put o.dst v') w') : o.wp P a w K Q := by
  obtain ⟨v', w', hrun, h2, h3, h4⟩ := run_app (P := P) base t o.type e z size bytes ht hi hzs hsz v n xs hown ad m c news hb h1 hbytes h63 hbase
  unfold Oper.wp
  simp [execOp, ho, resolve, invoke, builtin, hs, hx, hrun, Result.andThen]
  exact h _ _ h2 h3 h4
/-- In a walk. -/
theorem app_in {w : World} {ops : Array Oper} {rest : List Oper} {o : Oper} {a : Act} {Q : Exit → Act → World → Prop} (hgd : Region.wanted o (yielded ops a.tmps) = true) (s x : Operand) (t : TypeId)
    (ho : o.op = .call { callee := .builtin .append, args := #[s, x], argTypes := #[t, t] })
    (base : Nat) (e : TypeId) (z : Value) (size bytes : Nat) (ht : P.underlying t = some (.slice e)) (hi : Info P e z size bytes) (hzs : z.cells.size = size) (hsz : 0 < size)
    (v : Value) (n : Nat) (xs : List Value) (hs : a.eval s = v) (hown : w.ownsRow base e size v n xs)
    (ad : Option Addr) (m c : Nat) (news : List Value) (hx : a.eval x = .slice ad m c) (hb : Sl w ad m c size news) (h1 : ∀ u ∈ news, u.oneCell' = true)
    (hbytes : (n + m) * bytes ≤ 140737488355328) (h63 : n + m ≤ 9223372036854775807) (hbase : base ≤ w.heap.size)
    (h : ∀ v' w', w'.ownsRow base e size v' (n + m) (xs ++ news) → Keep (fun k => v.ownBlock = some k) w w' → (v'.ownBlock = v.ownBlock ∨ v'.ownBlock = some w.heap.size) → wpList P ops Q rest (a.put o.dst v') w') : wpList P ops Q (o :: rest) a w :=
  at_wanted hgd fun _ hK => app_at s x t ho base e z size bytes ht hi hzs hsz v n xs hs hown ad m c news hx hb h1 hbytes h63 hbase fun v' w' h2 h3 h4 => hK _ _ (h v' w' h2 h3 h4)
end
end Go.Own

/- More on rows of one's own. -/
namespace Go.Own
open Go Go.RowKit
theorem own_some {w : World} {B z n : Nat} {e : TypeId} {v : Value} {l : List Value} (h : w.ownsRow B e z v n l) (h0 : 0 < l.length) :
    ∃ g cap cur, v = .slice (some ⟨g, 0, none⟩) n cap ∧ B ≤ g ∧ w.heap[g]? = some (.cells cur e (0, 0)) ∧ n ≤ cap ∧ cap ≤ 9223372036854775807 ∧ cur.size = cap * z ∧ cur.toList.take (n * z) = l := by
  obtain ⟨h1, h2⟩ := h
  rcases h2 with ⟨rfl, h2⟩ | ⟨g, cap, cur, a0, a1, a2, a3, a4, a5, a6⟩
  · subst h2; simp at h1; subst h1; simp at h0
  · exact ⟨g, cap, cur, a0, a1, a2, a3, a4, a5, a6⟩
end Go.Own

/- 'b[i:j]' of bytes: some slice that reads as the piece, whatever the capacity. -/
namespace Go.Own
open Go Go.RowKit
section
variable {P : Program} {t e : TypeId} (ht : P.underlying t = some (.slice e)) (he : (P.info? e).map (·.size) = some 1)
include ht he
end
theorem Bs.drewN {w : World} {a : Option Addr} {n c : Nat} {l : List UInt8} (h : Bs w a n c l) (k : Nat) : Bs (w.drewN k) a n c l := Sl.keep (F := fun _ => False) h ((Keep.refl _ w).drewN k) fun _ _ h => h
end Go.Own

/- Disks in plain words: sectors that stand, writes that wait. No program. -/
namespace Go.Own
/-- Sectors that stand, writes that wait, whether the power is off, how many writes are left. -/
structure Dk where
  L : List (List UInt8)
  wait : List (Nat × List UInt8)
  off : Bool
  left : Int
def Secs (L : List (List UInt8)) : Prop := ∀ s ∈ L, s.length = 512
def Dk.cut (D : Dk) (n : Int) : Dk := { D with left := max n (-1) }
/-- A disk as it may be. -/
structure Dk.Good (D : Dk) : Prop where
  secs : Secs D.L
  many : 2 ≤ D.L.length ∧ D.L.length ≤ 128
  waits : ∀ x ∈ D.wait, x.1 < D.L.length ∧ x.2.length = 512
  left : -1 ≤ D.left ∧ D.left ≤ 9223372036854775807
theorem Dk.Good.cut {D : Dk} (h : D.Good) (n : Int) (hn : n ≤ 9223372036854775807) : (D.cut n).Good := ⟨h.secs, h.many, h.waits, by show -1 ≤ max n (-1) ∧ max n (-1) ≤ _; omega⟩
end Go.Own

namespace Go.Proofs.Ytenbpbnffnodhaa
open Go Go.RowKit Go.Own
set_option linter.unusedVariables false
/-- A write that waits, and the slice of its bytes. -/
structure Wt where
  i : Nat
  b : List UInt8
  v : Value
def Wt.cells (x : Wt) : List Value := [.int .i64 x.i, x.v]
def Wt.of (x : Wt) : Nat × List UInt8 := (x.i, x.b)
/-- Of the block p a disk is told. -/
structure DkAt (w : World) (p : Nat) (D : Dk) (vb vw : Value) (it : List Wt) : Prop where
  row : Row w p 189 [vb, vw, .bool D.off, .int .i64 D.left]
  ownb : w.ownsRow 0 5 1 vb (512 * D.L.length) (D.L.flatten.map bv)
  ownw : w.ownsRow 0 192 2 vw it.length (it.map Wt.cells).flatten
  wait : D.wait = it.map Wt.of
  items : ∀ x ∈ it, w.ownsRow 0 5 1 x.v 512 (x.b.map bv) ∧ x.v.ownBlock ≠ vb.ownBlock
  good : D.Good
def dkF (p : Nat) (vb vw : Value) (it : List Wt) (k : Nat) : Prop := k = p ∨ vb.ownBlock = some k ∨ vw.ownBlock = some k ∨ ∃ x ∈ it, x.v.ownBlock = some k
/-- A disk in memory, all of its blocks among F. -/
def DkRep (w : World) (p : Nat) (D : Dk) (F : Nat → Prop) : Prop := ∃ vb vw it, DkAt w p D vb vw it ∧ ∀ k, dkF p vb vw it k → F k
theorem DkAt.kept {F : Nat → Prop} {w w' : World} {p : Nat} {D : Dk} {vb vw : Value} {it : List Wt} (h : DkAt w p D vb vw it) (k : Keep F w w') (hf : ∀ x, dkF p vb vw it x → ¬ F x) : DkAt w' p D vb vw it :=
  ⟨h.row.keep k (hf p (.inl rfl)), own_kept h.ownb k (fun g hg => hf g (.inr (.inl hg))), own_kept h.ownw k (fun g hg => hf g (.inr (.inr (.inl hg)))), h.wait,
   fun x hx => ⟨own_kept (h.items x hx).1 k (fun g hg => hf g (.inr (.inr (.inr ⟨x, hx, hg⟩)))), (h.items x hx).2⟩, h.good⟩
theorem DkAt.lt {w : World} {p : Nat} {D : Dk} {vb vw : Value} {it : List Wt} (h : DkAt w p D vb vw it) {k : Nat} (hk : dkF p vb vw it k) : k < w.heap.size := by
  rcases hk with rfl | hk | hk | ⟨x, hx, hk⟩
  · exact h.row.lt
  · exact (own_block_lt h.ownb hk).2
  · exact (own_block_lt h.ownw hk).2
  · exact (own_block_lt (h.items x hx).1 hk).2
theorem DkRep.kept {F G : Nat → Prop} {w w' : World} {p : Nat} {D : Dk} (h : DkRep w p D F) (k : Keep G w w') (hf : ∀ x, F x → ¬ G x) : DkRep w' p D F := by
  obtain ⟨vb, vw, it, h, hF⟩ := h
  exact ⟨vb, vw, it, h.kept k fun x hx => hf x (hF x hx), hF⟩
theorem DkRep.below {F : Nat → Prop} {w w' : World} {p : Nat} {D : Dk} (h : DkRep w p D F) (k : Below w.heap.size w w') : DkRep w' p D F := by
  obtain ⟨vb, vw, it, h, hF⟩ := h
  exact ⟨vb, vw, it, h.kept (F := fun _ => False) (.of_below k) fun _ _ h => h, hF⟩
theorem DkRep.good {F : Nat → Prop} {w : World} {p : Nat} {D : Dk} (h : DkRep w p D F) : D.Good := by
  obtain ⟨vb, vw, it, h, hF⟩ := h; exact h.good
theorem mkBytes (w : World) (m : Int) (n : Nat) (hm : m = n) (hn : n ≤ 281474976710656) :
    (Instr.makeSlice 31 (.int .i64 m) (.int .i64 m)).run Try.prog w = .ok (.slice (some ⟨w.heap.size, 0, none⟩) n n) (w.alloc (.cells ((List.replicate n (0 : UInt8)).map bv).toArray 5 (0, 0))) := by
  have e : (List.replicate n (0 : UInt8)).map bv = List.replicate n (.int .u8 0) := by simp [bv]
  rw [e]
  exact run_mk1 (P := Try.prog) 31 5 _ _ Try.underlying31 info_u8 rfl m n hm (by omega) (by omega) w
end Go.Proofs.Ytenbpbnffnodhaa

/- Bytes of one's own beside whatever else there is: rules for walks. -/
namespace Go.Own
open Go Go.RowKit
section
variable {B : Nat} {w0 w : World} {l : List Ob} {i : Nat}
theorem St.ownTo {e : TypeId} {z : Nat} {v : Value} {n : Nat} {cs : List Value} (h : St B w0 w l) (hi : l[i]? = some (OwO e z v n cs)) (w' : World) (v' : Value) (n' : Nat) (cs' : List Value)
    (hp : w'.ownsRow 0 e z v' n' cs') (k : Keep (fun k => v.ownBlock = some k) w w') (hv : v'.ownBlock = v.ownBlock ∨ v'.ownBlock = some w.heap.size) : St B w0 w' (l.set i (OwO e z v' n' cs')) := by
  obtain ⟨F, ⟨h1, h2, h3⟩, _, _, h4⟩ := h.at hi
  refine h4 w' (fun x => v'.ownBlock = some x) _ rfl (k.mono fun x _ hx => h2 x hx) ⟨hp, fun _ h => h, fun x hx => (own_block_lt hp hx).2⟩ fun x hx => ?_
  rcases hv with hv | hv
  · exact .inl (h2 _ (by rw [← hv]; exact hx))
  · rw [hv] at hx; cases hx; exact .inr (Nat.le_refl _)
theorem St.bsOwn {e : TypeId} {v : Value} {n : Nat} {b : List UInt8} (h : St B w0 w l) (hi : l[i]? = some (OwO e 1 v n (b.map bv))) : ∃ a c, v = .slice a n c ∧ Bs w a n c b := by
  obtain ⟨a, c, e1, _, hb⟩ := Sl.of_owned (h.own hi)
  exact ⟨a, c, e1, hb⟩
theorem set_same {P : Ob} (hi : l[i]? = some P) : l.set i P = l := by
  obtain ⟨hlt, e⟩ := List.getElem?_eq_some_iff.1 hi
  rw [← e]; exact List.set_getElem_self hlt
end
end Go.Own
namespace Go.Proofs.Ytenbpbnffnodhaa
open Go Go.RowKit Go.Own
set_option linter.unusedVariables false
section
variable {B : Nat} {w0 w : World} {l : List Ob}
/-- 'make([]byte, n)'. -/
theorem mk_st (h : St B w0 w l) (m : Int) (n : Nat) (hm : m = n) (hn : n ≤ 281474976710656) :
    ∃ g W, (Instr.makeSlice 31 (.int .i64 m) (.int .i64 m)).run Try.prog w = .ok (.slice (some ⟨g, 0, none⟩) n n) W ∧ St B w0 W (OwB (.slice (some ⟨g, 0, none⟩) n n) (List.replicate n 0) :: l) := by
  refine ⟨_, _, mkBytes w m n hm hn, ?_⟩
  have ho : (w.alloc (.cells ((List.replicate n (0 : UInt8)).map bv).toArray 5 (0, 0))).ownsRow w.heap.size 5 1 (.slice (some ⟨w.heap.size, 0, none⟩) n n) n ((List.replicate n (0 : UInt8)).map bv) :=
    ⟨by simp, .inr ⟨w.heap.size, n, _, rfl, Nat.le_refl _, by show (w.heap.push _)[w.heap.size]? = _; simp, Nat.le_refl _, Nat.le_trans hn (by decide), by simp, List.take_of_length_le (by simp)⟩⟩
  have hs := h.addOwn ((Below.refl _ _).alloc (Nat.le_refl _) (.cells ((List.replicate n (0 : UInt8)).map bv).toArray 5 (0, 0))) ho
  unfold OwB
  rw [List.length_replicate]
  exact hs
section
variable {v : Value} {b : List UInt8}
end
end
end Go.Proofs.Ytenbpbnffnodhaa

/- Variables of a struct type, lists of structs, beside whatever else there is: rules for walks. -/
namespace Go.Own
open Go Go.RowKit
theorem results_row2 {P : Program} {fn : Func} {p u : Tmp} {ty : TypeId} (h : fn.results = #[.cell p ty, .tmp u]) (tmps : Array Value) (w : World) (g : Nat) (t : TypeId) (cs : List Value) (d : TypeDesc)
    (hp : tmps.getD p undef = .pointer (some ⟨g, 0, none⟩)) (hg : Row w g t cs)
    (hu : P.underlying ty = some d) (hd : (match d with | .struct _ | .array _ _ => true | _ => false) = true) (hi : (P.info? ty).map (·.size) = some cs.length) :
    (results fn tmps).run P w = .ok (.tuple #[.agg cs.toArray, tmps.getD u undef]) w := by
  have hp' : tmps[p]?.getD undef = .pointer (some ⟨g, 0, none⟩) := by simpa using hp
  simp [results, h, hp', asAddr, run_loadVar_row w g t ty cs.toArray (0, 0) d hg hu hd (by simpa using hi)]
section
variable {B : Nat} {w0 w : World} {l : List Ob} {i : Nat} {g : Nat} {e : TypeId} {cs : List Value}
theorem St.rowTo (h : St B w0 w l) (hi : l[i]? = some (RowO g e cs)) (w' : World) (cs' : List Value) (hp : Row w' g e cs') (k : Keep (· = g) w w') : St B w0 w' (l.set i (RowO g e cs')) := by
  obtain ⟨F, ⟨h1, h2, h3⟩, _, _, h4⟩ := h.at hi
  exact h4 w' (fun x => x = g) _ rfl (k.mono fun x _ hx => by rw [hx]; exact h2) ⟨hp, rfl, fun x hx => by rw [hx]; exact hp.lt⟩ fun x hx => .inl (by rw [hx]; exact h2)
section
variable {P : Program} {ops : Array Oper} {rest : List Oper} {o : Oper} {a : Act} {Q : Exit → Act → World → Prop}
theorem alloc_st (h : St B w0 w l) (hgd : o.guard = none) (t : TypeId) (ho : o.op = .alloc t) (z : Value) (s b : Nat) (hi : Info P t z s b) (cs : List Value) (hc : z.cells = cs.toArray)
    (hk : ∀ g w', St B w0 w' (RowO g t cs :: l) → wpList P ops Q rest (a.put o.dst (.pointer (some ⟨g, 0, none⟩))) w') : wpList P ops Q (o :: rest) a w :=
  alloc_row hgd t ho z s b hi cs hc (hk _ _ (h.addRow t cs))
theorem store_st (h : St B w0 w l) (i : Nat) {g : Nat} {e : TypeId} {old : List Value} (hi : l[i]? = some (RowO g e old)) (hgd : o.guard = none) (t : TypeId) (x y : Operand) (ho : o.op = .store t x y)
    (hx : a.eval x = .pointer (some ⟨g, 0, none⟩)) (cs : List Value) (hy : a.eval y = .agg cs.toArray) (hs : (P.info? t).map (·.size) = some cs.length) (hl : old.length = cs.length)
    (h1 : ∀ u ∈ cs, u.oneCell' = true) (hk : ∀ w', St B w0 w' (l.set i (RowO g e cs)) → wpList P ops Q rest (a.put o.dst undef) w') : wpList P ops Q (o :: rest) a w :=
  store_row hgd t x y ho g hx cs hy e old (h.row hi) hs hl h1 fun w' hr k => hk w' (h.rowTo hi w' cs hr k)
theorem load_st (h : St B w0 w l) (i : Nat) {g : Nat} {e : TypeId} {cs : List Value} (hi : l[i]? = some (RowO g e cs)) (hgd : o.guard = none) (t : TypeId) (x : Operand) (ho : o.op = .load t x)
    (hx : a.eval x = .pointer (some ⟨g, 0, none⟩)) (d : TypeDesc) (hu : P.underlying t = some d) (hd : (match d with | .struct _ | .array _ _ => true | _ => false) = true) (hs : (P.info? t).map (·.size) = some cs.length)
    (hk : wpList P ops Q rest (a.put o.dst (.agg cs.toArray)) w) : wpList P ops Q (o :: rest) a w :=
  load_row hgd t x ho g hx e cs d (h.row hi) hu hd hs hk
end
end
/-- A block's cells. -/
def blC (x : Blk) : List Value := [.int .i64 x.off, .int .i64 x.size, .bool x.used]
theorem blC_len (x : Blk) : (blC x).length = 3 := rfl
theorem blC_one (x : Blk) : ∀ u ∈ blC x, u.oneCell' = true := by
  intro u hu
  simp only [blC, List.mem_cons, List.not_mem_nil, or_false] at hu
  rcases hu with rfl | rfl | rfl <;> rfl
end Go.Own
namespace Go.Proofs.Ytenbpbnffnodhaa
open Go Go.RowKit Go.Own
set_option linter.unusedVariables false
theorem info_bl : Info Try.prog 77 (.agg #[.int .i64 0, .int .i64 0, .bool false]) 3 24 := by unfold Info; kernel_rfl
theorem size_bl : (Try.prog.info? 77).map (·.size) = some 3 := by kernel_rfl
/-- A block as a function tells it. -/
def bkV : Option Blk → Value
  | none => .agg #[.int .i64 0, .int .i64 0, .bool false]
  | some x => .agg #[.int .i64 x.off, .int .i64 x.size, .bool x.used]
/-- A variable that holds a block. -/
abbrev BkO (g : Nat) (o s : Int) (u : Bool) : Ob := RowO g 77 [.int .i64 o, .int .i64 s, .bool u]
/-- A list of blocks of one's own. -/
abbrev BlsO (v : Value) (L : List Blk) : Ob := OwO 77 3 v L.length (L.map blC).flatten
section
variable {B : Nat} {w0 w : World} {l : List Ob} {ops : Array Oper} {rest : List Oper} {o : Oper} {a : Act} {Q : Exit → Act → World → Prop}
theorem bk_alloc (h : St B w0 w l) (hgd : o.guard = none) (ho : o.op = .alloc 77)
    (hk : ∀ g w', St B w0 w' (BkO g 0 0 false :: l) → wpList Try.prog ops Q rest (a.put o.dst (.pointer (some ⟨g, 0, none⟩))) w') : wpList Try.prog ops Q (o :: rest) a w :=
  alloc_st h hgd _ ho _ _ _ info_bl [.int .i64 0, .int .i64 0, .bool false] rfl hk
theorem bk_store (h : St B w0 w l) (i : Nat) {g : Nat} {p q : Int} {r : Bool} (hi : l[i]? = some (BkO g p q r)) (hgd : o.guard = none) (x y : Operand) (ho : o.op = .store 77 x y)
    (hx : a.eval x = .pointer (some ⟨g, 0, none⟩)) (p' q' : Int) (r' : Bool) (hy : a.eval y = .agg #[.int .i64 p', .int .i64 q', .bool r'])
    (hk : ∀ w', St B w0 w' (l.set i (BkO g p' q' r')) → wpList Try.prog ops Q rest (a.put o.dst undef) w') : wpList Try.prog ops Q (o :: rest) a w :=
  store_st h i hi hgd _ x y ho hx [.int .i64 p', .int .i64 q', .bool r'] hy size_bl rfl (by simp [Value.oneCell']) hk
theorem bk_load (h : St B w0 w l) (i : Nat) {g : Nat} {p q : Int} {r : Bool} (hi : l[i]? = some (BkO g p q r)) (hgd : o.guard = none) (x : Operand) (ho : o.op = .load 77 x)
    (hx : a.eval x = .pointer (some ⟨g, 0, none⟩)) (hk : wpList Try.prog ops Q rest (a.put o.dst (.agg #[.int .i64 p, .int .i64 q, .bool r])) w) : wpList Try.prog ops Q (o :: rest) a w :=
  load_st h i hi hgd _ x ho hx _ Try.underlying77 rfl size_bl hk
/-- 'append(l, x)'. -/
theorem bls_app (h : St B w0 w l) (i : Nat) {v : Value} {L : List Blk} (hi : l[i]? = some (BlsO v L)) (hgd : Region.wanted o (yielded ops a.tmps) = true) (s x : Operand)
    (ho : o.op = .call { callee := .builtin .append, args := #[s, x], argTypes := #[75, 75] }) (hs : a.eval s = v) (p q : Int) (r : Bool) (y : Blk) (hp : p = y.off) (hq : q = y.size) (hr : r = y.used)
    (hx : a.eval x = .slice (some ⟨w.heap.size, 0, none⟩) 1 1) (hL : L.length ≤ 1000000)
    (hk : ∀ v' w', St B w0 w' (l.set i (BlsO v' (L ++ [y]))) → wpList Try.prog ops Q rest (a.put o.dst v') w') : wpList Try.prog ops Q (o :: rest) a (w.alloc (.cells #[.int .i64 p, .int .i64 q, .bool r] 77 (0, 0))) := by
  subst hp; subst hq; subst hr
  have h' := h.alloc (.cells #[.int .i64 y.off, .int .i64 y.size, .bool y.used] 77 (0, 0))
  refine app_in hgd s x 75 ho 0 77 _ 3 24 Try.underlying75 info_bl rfl (by decide) v L.length _ hs (h'.own hi) _ 1 1 (blC y) hx (Sl.lit w 77 (blC y) 1 3 rfl (by decide)) (blC_one y) (by omega) (by omega) (Nat.zero_le _) fun v' w' h1 h2 h3 => hk v' w' ?_
  have := h'.ownTo hi w' v' _ _ h1 h2 h3
  unfold BlsO
  rw [List.length_append, List.map_append, List.flatten_append]
  simpa using this
end
end Go.Proofs.Ytenbpbnffnodhaa

namespace Go.Proofs.Ytenbpbnffnodhaa
open Go Go.RowKit Go.Own
set_option linter.unusedVariables false
theorem rem16 (s : Int) (h : 0 ≤ s) : s.tmod 16 = s % 16 := Int.tmod_eq_emod_of_nonneg h
theorem ref_IsSize (w : World) (s : Int) : Calls Try.prog 160 #[.int .i64 s] w fun e w' => e = .returned (.bool (isSize s)) ∧ w = w' := by
  by_cases h1 : 32 ≤ s
  · by_cases h2 : s ≤ 16384
    · go_enter Try.func160, Try.ntmps160
      go_wp2
      go_ret
      refine ⟨rB ?_, rfl⟩
      simp [isSize, h1, h2, Bool.beq_eq_decide_eq]
    · go_enter Try.func160, Try.ntmps160
      go_wp2
      go_ret
      exact ⟨rB (isSize_no (by omega)).symm, rfl⟩
  · go_enter Try.func160, Try.ntmps160
    go_wp2
    go_ret
    exact ⟨rB (isSize_no (by omega)).symm, rfl⟩
theorem tag_Pack (w : World) (s : Int) (u : Bool) : Calls Try.prog 154 #[.int .i64 s, .bool u] w fun e w' => e = .returned (.int .u64 (tagOf s u)) ∧ w = w' := by
  by_cases h : isSize s = true
  · have h' := (isSize_iff s).1 h
    obtain ⟨h1, h2, h3⟩ := h'
    have hor := or1 s (by omega) (by omega) (by omega)
    have hne : (s % 16 != 0) = false := by rw [bne_eq_false_iff_eq]; exact h3
    have ht : tagOf s u = if u then s + 1 else s := by unfold tagOf; rw [h]; rfl
    have HT := Lib.hid ht
    clear ht h h3
    cases u with
    | true =>
      go_enter Try.func154, Try.ntmps154
      go_wp2
      go_ret
      exact ⟨rI (by rw [HT.out]; rfl), rfl⟩
    | false =>
      go_enter Try.func154, Try.ntmps154
      go_wp2
      go_ret
      exact ⟨rI (by rw [HT.out]; rfl), rfl⟩
  · have hn : s < 32 ∨ 16384 < s ∨ (32 ≤ s ∧ s ≤ 16384 ∧ (s % 16 != 0) = true) := by
      have h4 : ¬ (32 ≤ s ∧ s ≤ 16384 ∧ s % 16 = 0) := fun hh => h (isSize_yes hh)
      rw [bne_iff_ne]; omega
    have ht : tagOf s u = 0 := by unfold tagOf; rw [Bool.not_eq_true] at h; rw [h]; rfl
    have HT := Lib.hid ht
    clear ht h
    rcases hn with hn | hn | ⟨h1, h2, h3⟩
    all_goals
      go_enter Try.func154, Try.ntmps154
      go_wp2
      go_ret
      exact ⟨rI HT.out.symm, rfl⟩
theorem tag_Unpack (w : World) (v : Int) (h0 : 0 ≤ v) (h1 : v ≤ 18446744073709551615) :
    Calls Try.prog 156 #[.int .u64 v] w fun e w' => e = .returned (.tuple #[.int .i64 (tagS v), .bool (tagU v), .bool (isTag v)]) ∧ w = w' := by
  have e1 := low_eq v h0 h1
  have e2 := odd_eq v h0 h1
  have hw := wrapI64 (n := v % 65536 - v % 2) (by omega) (by omega)
  by_cases hz : v = 0
  · subst hz
    go_enter Try.func156, Try.ntmps156
    go_wp2
    go_ret3
    exact ⟨by rw [show tagS 0 = 0 from by decide, show tagU 0 = false from by decide, show isTag 0 = false from by decide]; rfl, rfl⟩
  · have hz' : (v == 0) = false := by rw [beq_eq_false_iff_ne]; exact hz
    have hq := (unpack_eq v h0).resolve_right hz
    cases ht : isTag v with
    | true =>
      rw [ht] at hq
      have hs : v % 65536 - v % 2 = tagS v := by have := isTag_rng ht; unfold tagS; rw [ht]; simp; omega
      have hu : (v % 2 == 1) = tagU v := by unfold tagU; rw [ht]; rw [Bool.eq_iff_iff]; simp
      have HS := Lib.hid hs; have HU := Lib.hid hu
      clear hs hu ht hz
      go_enter Try.func156, Try.ntmps156
      go_wp2_with fail
      with_reducible refine (tag_Pack _ _ _).mono ?_
      rintro e w' ⟨rfl, rfl⟩
      go_wp2
      go_ret3
      exact ⟨by rw [← HS.out, ← HU.out]; rfl, rfl⟩
    | false =>
      rw [ht] at hq
      obtain ⟨n1, n2⟩ := noTag ht
      have N1 := Lib.hid n1; have N2 := Lib.hid n2
      clear n1 n2 ht hz
      go_enter Try.func156, Try.ntmps156
      go_wp2_with fail
      with_reducible refine (tag_Pack _ _ _).mono ?_
      rintro e w' ⟨rfl, rfl⟩
      go_wp2
      go_ret3
      exact ⟨by rw [N1.out, N2.out]; rfl, rfl⟩
end Go.Proofs.Ytenbpbnffnodhaa

/- Blocks of an arena: the program's calls. -/
namespace Go.Own
def blkI (b : List UInt8) (o : Int) : Option Blk := if 0 ≤ o then blkAt b o.toNat else none
def aheadI (b : List UInt8) (o : Int) : Option Blk := if 0 ≤ o then aheadB b o.toNat else none
theorem couldB_iff {b : List UInt8} {o s : Int} : couldB b o s = true ↔ 184 ≤ o ∧ o % 16 = 8 ∧ o ≤ b.length ∧ s ≤ b.length - o := by unfold couldB; exact decide_eq_true_iff
theorem couldB_no {b : List UInt8} {o s : Int} (h : ¬ (184 ≤ o ∧ o % 16 = 8 ∧ o ≤ b.length ∧ s ≤ b.length - o)) : couldB b o s = false := by unfold couldB; exact decide_eq_false h
theorem blkI_none {b : List UInt8} {o : Int} (h : couldB b o 32 = false) : blkI b o = none := by
  unfold blkI
  split
  · rename_i h0
    cases hx : blkAt b o.toNat with
    | none => rfl
    | some x =>
      obtain ⟨_, h1, h2, h3, _, _, h6, _⟩ := blkAt_some hx
      have : couldB b o 32 = true := couldB_iff.2 ⟨by omega, by omega, by omega, by omega⟩
      rw [this] at h; cases h
  · rfl
end Go.Own
namespace Go.Proofs.Ytenbpbnffnodhaa
open Go Go.RowKit Go.Own
set_option linter.unusedVariables false
set_option maxRecDepth 100000
def errO (x : Option Blk) : Value := match x with | none => .iface 183 (.int .i64 3) | some _ => .nilIface
section
variable {B : Nat} {w0 w : World} {l : List Ob} {i p : Nat} {A : Ar}
theorem ar_small (h : St B w0 w l) (hi : l[i]? = some (ArT p A)) : A.b.length ≤ 16384 ∧ A.base ≤ 4611686018427387904 := by
  obtain ⟨v, ha⟩ := h.ar hi
  have h1 := ha.hbase; have h2 := ha.hcap; have h3 := ha.hlen
  omega
theorem blk_fits (h : St B w0 w l) (hi : l[i]? = some (ArT p A)) (o s : Int) :
    Calls Try.prog 155 #[arP p, .int .i64 o, .int .i64 s] w fun e w' => e = .returned (.bool (couldB A.b o s)) ∧ w = w' := by
  have hsm := (ar_small h hi).1
  have KL := Lib.hid (ar_Len h hi)
  clear h hi
  by_cases g1 : 184 ≤ o
  · have ht := rem16 o (by omega)
    have d1 : decide (184 ≤ o) = true := decide_eq_true g1
    by_cases g2 : o % 16 = 8
    · have d2 : (o % 16 == 8) = true := by rw [beq_iff_eq]; exact g2
      by_cases g3 : o ≤ A.b.length
      · have d3 : decide (o ≤ (A.b.length : Int)) = true := decide_eq_true g3
        have e4 : IntKind.i64.wrap ((A.b.length : Int) - o) = (A.b.length : Int) - o := IntWalk.i64_in _ (by omega)
        have hc : couldB A.b o s = decide (s ≤ (A.b.length : Int) - o) := by
          unfold couldB; rw [decide_eq_decide]; omega
        rw [hc]
        clear g1 g2 hc
        go_enter Try.func155, Try.ntmps155
        go_wp2_with fail
        with_reducible refine KL.out.mono ?_
        rintro e w' ⟨rfl, rfl⟩
        go_wp2_with fail
        with_reducible refine KL.out.mono ?_
        rintro e w' ⟨rfl, rfl⟩
        go_wp2
        go_ret
        exact ⟨rfl, rfl⟩
      · have d3 : decide (o ≤ (A.b.length : Int)) = false := decide_eq_false g3
        rw [couldB_no (by omega)]
        clear g1 g2
        go_enter Try.func155, Try.ntmps155
        go_wp2_with fail
        with_reducible refine KL.out.mono ?_
        rintro e w' ⟨rfl, rfl⟩
        go_wp2
        go_ret
        exact ⟨rfl, rfl⟩
    · have d2 : (o % 16 == 8) = false := by rw [beq_eq_false_iff_ne]; exact g2
      rw [couldB_no (by omega)]
      clear g1
      go_enter Try.func155, Try.ntmps155
      go_wp2
      go_ret
      exact ⟨rfl, rfl⟩
  · have d1 : decide (184 ≤ o) = false := decide_eq_false g1
    rw [couldB_no (by omega)]
    go_enter Try.func155, Try.ntmps155
    go_wp2
    go_ret
    exact ⟨rfl, rfl⟩
end
end Go.Proofs.Ytenbpbnffnodhaa

/- Blocks of an arena: the program's Get and Ahead. -/
namespace Go.Proofs.Ytenbpbnffnodhaa
open Go Go.RowKit Go.Own
set_option linter.unusedVariables false
set_option maxRecDepth 100000
section
variable {B : Nat} {w0 w : World} {l : List Ob} {i p : Nat} {A : Ar}
set_option maxHeartbeats 4000000 in
theorem blk_Get (h : St B w0 w l) (hi : l[i]? = some (ArT p A)) (o : Int) :
    Calls Try.prog 64 #[arP p, .int .i64 o] w fun e w' => e = .returned (.tuple #[bkV (blkI A.b o), errO (blkI A.b o)]) ∧ St B w0 w' l := by
  obtain ⟨hsm, hbs⟩ := ar_small h hi
  have H := Lib.hid h; have HI := Lib.hid hi
  clear h hi
  by_cases hc : couldB A.b o 32 = true
  · obtain ⟨c1, c2, c3, c4⟩ := couldB_iff.1 hc
    obtain ⟨O, rfl⟩ := Int.eq_ofNat_of_zero_le (show 0 ≤ o by omega)
    have hgi : blkI A.b (O : Int) = blkAt A.b O := by unfold blkI; rw [if_pos (Int.natCast_nonneg _), Int.toNat_natCast]
    rw [hgi]
    have hw := numAt_lt A.b O
    obtain ⟨W, hW⟩ : ∃ W, W = numAt A.b O := ⟨_, rfl⟩
    rw [← hW] at hw
    have hO : O ≤ 16384 := by omega
    have hO2 : 184 ≤ O := by omega
    have HO := Lib.hid (And.intro c1 (And.intro c2 (And.intro c3 c4)))
    have HWE := Lib.hid hW
    clear c1 c2 c3 c4 hgi hW
    cases ht : isTag (W : Int) with
    | false =>
      have hn : blkAt A.b O = none := by
        unfold blkAt; rw [if_neg]; intro hh; rw [← HWE.out, ht] at hh; exact absurd hh.2.2.1 Bool.false_ne_true
      rw [hn]
      clear hn
      go_enter Try.func64, Try.ntmps64
      go_wp2_with (refine bk_alloc H.out rfl rfl ?_; intro g w1 h1; have H1 := Lib.hid h1; clear h1)
      have kc := blk_fits H1.out (i := i + 1) HI.out (O : Int) 32
      rw [hc] at kc
      with_reducible refine kc.mono ?_
      clear kc
      rintro e w' ⟨rfl, rfl⟩
      go_wp2_with fail
      have kc := ar_Base (p := p) (A := A) H1.out (i := i + 1) HI.out
      with_reducible refine kc.mono ?_
      clear kc
      rintro e w' ⟨rfl, rfl⟩
      go_wp2_with fail
      have kc := ar_WordAt H1.out (i := i + 1) HI.out ((A.base : Int) + O) O rfl (by have := HO.out; omega)
      rw [← HWE.out] at kc
      with_reducible refine kc.mono ?_
      clear kc
      rintro e w' ⟨rfl, rfl⟩
      go_wp2_with fail
      have kc := tag_Unpack w1 (W : Int) (Int.natCast_nonneg _) (by omega)
      rw [ht] at kc
      with_reducible refine kc.mono ?_
      clear kc
      rintro e w' ⟨rfl, rfl⟩
      clear ht hc
      go_wp2_with (refine bk_store H1.out 0 rfl rfl _ _ rfl rfl 0 0 false rfl ?_; intro w2 h2; have H2 := Lib.hid h2; clear h2)
      refine bodyPost_ret (results_row2 rfl _ _ g _ _ _ rfl (H2.out.row (i := 0) rfl) Try.underlying77 rfl size_bl) rfl ⟨rfl, H2.out.tail⟩
    | true =>
      obtain ⟨t1, t2, t3⟩ := tagS_isTag ht
      obtain ⟨S, hS⟩ := Int.eq_ofNat_of_zero_le (show 0 ≤ tagS W by omega)
      rw [hS] at t1 t2 t3
      have HT := Lib.hid (And.intro t1 (And.intro t2 t3))
      have hS2 : S ≤ 16384 := by omega
      have hSn : (tagS ((numAt A.b O : Nat) : Int)).toNat = S := by rw [← HWE.out, hS, Int.toNat_natCast]
      have HSN := Lib.hid hSn
      have HTT := Lib.hid ht
      have hb : blkAt A.b O = if O + S ≤ A.b.length ∧ numAt A.b (O + S - 8) = W then some ⟨O, S, tagU W⟩ else none := by
        have := HO.out
        unfold blkAt
        rw [hSn, ← HWE.out, ht]
        by_cases hh : O + S ≤ A.b.length ∧ numAt A.b (O + S - 8) = W
        · rw [if_pos ⟨by omega, by omega, rfl, hh⟩, if_pos hh]
        · rw [if_neg (fun h => hh h.2.2.2), if_neg hh]
      obtain ⟨R, hR⟩ : ∃ R, R = blkAt A.b O := ⟨_, rfl⟩
      rw [← hR]
      have HR := Lib.hid (hR.trans hb)
      clear hb t1 t2 t3 hSn hR
      go_enter Try.func64, Try.ntmps64
      go_wp2_with (refine bk_alloc H.out rfl rfl ?_; intro g w1 h1; have H1 := Lib.hid h1; clear h1)
      have kc := blk_fits H1.out (i := i + 1) HI.out (O : Int) 32
      rw [hc] at kc
      with_reducible refine kc.mono ?_
      clear kc
      rintro e w' ⟨rfl, rfl⟩
      go_wp2_with fail
      have kc := ar_Base (p := p) (A := A) H1.out (i := i + 1) HI.out
      with_reducible refine kc.mono ?_
      clear kc
      rintro e w' ⟨rfl, rfl⟩
      go_wp2_with fail
      have kc := ar_WordAt H1.out (i := i + 1) HI.out ((A.base : Int) + O) O rfl (by have := HO.out; omega)
      rw [← HWE.out] at kc
      with_reducible refine kc.mono ?_
      clear kc
      rintro e w' ⟨rfl, rfl⟩
      go_wp2_with fail
      have kc := tag_Unpack w1 (W : Int) (Int.natCast_nonneg _) (by omega)
      rw [ht, hS] at kc
      with_reducible refine kc.mono ?_
      clear kc
      rintro e w' ⟨rfl, rfl⟩
      clear ht hc hS
      go_wp2_with fail
      have kc := blk_fits H1.out (i := i + 1) HI.out (O : Int) (S : Int)
      by_cases hf : O + S ≤ A.b.length
      · have hyes : couldB A.b (O : Int) (S : Int) = true := couldB_iff.2 (by have := HO.out; omega)
        rw [hyes] at kc
        clear hyes
        with_reducible refine kc.mono ?_
        clear kc
        rintro e w' ⟨rfl, rfl⟩
        go_wp2_with fail
        have kc := ar_Base (p := p) (A := A) H1.out (i := i + 1) HI.out
        with_reducible refine kc.mono ?_
        clear kc
        rintro e w' ⟨rfl, rfl⟩
        go_wp2_with fail
        have kc := ar_WordAt H1.out (i := i + 1) HI.out ((A.base : Int) + ((O : Int) + S - 8)) (O + S - 8) (by have := HO.out; omega) (by have := HT.out; omega)
        have hv := numAt_lt A.b (O + S - 8)
        obtain ⟨V, hV⟩ : ∃ V, V = numAt A.b (O + S - 8) := ⟨_, rfl⟩
        rw [← hV] at kc hv
        have HV := Lib.hid hV
        clear hV
        with_reducible refine kc.mono ?_
        clear kc
        rintro e w' ⟨rfl, rfl⟩
        by_cases hv2 : V = W
        · subst hv2
          go_wp2_with (refine bk_store H1.out 0 rfl rfl _ _ rfl rfl (O : Int) (S : Int) (tagU V) rfl ?_; intro w2 h2; have H2 := Lib.hid h2; clear h2)
          refine bodyPost_ret (results_row2 rfl _ _ g _ _ _ rfl (H2.out.row (i := 0) rfl) Try.underlying77 rfl size_bl) rfl ⟨by rw [HR.out, if_pos ⟨hf, HV.out.symm⟩]; rfl, H2.out.tail⟩
        · skip
          go_wp2_with (refine bk_store H1.out 0 rfl rfl _ _ rfl rfl 0 0 false rfl ?_; intro w2 h2; have H2 := Lib.hid h2; clear h2)
          refine bodyPost_ret (results_row2 rfl _ _ g _ _ _ rfl (H2.out.row (i := 0) rfl) Try.underlying77 rfl size_bl) rfl ⟨by rw [HR.out, if_neg (fun h => hv2 (HV.out.trans h.2))]; rfl, H2.out.tail⟩
      · have hno : couldB A.b (O : Int) (S : Int) = false := couldB_no (by intro h; omega)
        rw [hno] at kc
        clear hno
        with_reducible refine kc.mono ?_
        clear kc
        rintro e w' ⟨rfl, rfl⟩
        go_wp2_with (refine bk_store H1.out 0 rfl rfl _ _ rfl rfl 0 0 false rfl ?_; intro w2 h2; have H2 := Lib.hid h2; clear h2)
        refine bodyPost_ret (results_row2 rfl _ _ g _ _ _ rfl (H2.out.row (i := 0) rfl) Try.underlying77 rfl size_bl) rfl ⟨by rw [HR.out, if_neg (fun h => hf h.1)]; rfl, H2.out.tail⟩
  · have hc : couldB A.b o 32 = false := by cases hx : couldB A.b o 32 <;> simp_all
    rw [blkI_none hc]
    go_enter Try.func64, Try.ntmps64
    go_wp2_with (refine bk_alloc H.out rfl rfl ?_; intro g w1 h1; have H1 := Lib.hid h1; clear h1)
    have kc := blk_fits H1.out (i := i + 1) HI.out o 32
    rw [hc] at kc
    with_reducible refine kc.mono ?_
    clear kc hc
    rintro e w' ⟨rfl, rfl⟩
    go_wp2_with (refine bk_store H1.out 0 rfl rfl _ _ rfl rfl 0 0 false rfl ?_; intro w2 h2; have H2 := Lib.hid h2; clear h2)
    refine bodyPost_ret (results_row2 rfl _ _ g _ _ _ rfl (H2.out.row (i := 0) rfl) Try.underlying77 rfl size_bl) rfl ⟨rfl, H2.out.tail⟩
end
end Go.Proofs.Ytenbpbnffnodhaa

/- Blocks of an arena: the program's Ahead. -/
namespace Go.Own
theorem ahead_eq {b : List UInt8} {O S W : Nat} (h1 : 184 ≤ O) (h2 : O ≤ b.length) (hW : W = numAt b (O - 8)) (ht : isTag (W : Int) = true) (hS : tagS (W : Int) = S) :
    aheadI b (O : Int) = match blkI b ((O : Int) - S) with | some x => (if x.size = S ∧ x.used = tagU (W : Int) then some x else none) | none => none := by
  subst hW
  unfold aheadI
  rw [if_pos (Int.natCast_nonneg _), Int.toNat_natCast]
  have hn : (tagS ((numAt b (O - 8) : Nat) : Int)).toNat = S := by rw [hS, Int.toNat_natCast]
  have hg : blkI b ((O : Int) - S) = blkAt b (O - S) := by
    unfold blkI
    split
    · rw [show ((O : Int) - S).toNat = O - S by omega]
    · cases hx : blkAt b (O - S) with
      | none => rfl
      | some x => have := (blkAt_some hx).2.1; omega
  unfold aheadB
  rw [if_pos ⟨h1, h2, ht⟩, hn, hg]
  cases hx : blkAt b (O - S) with
  | none => rfl
  | some x =>
    have := (blkAt_some hx).2.1
    simp only
    by_cases hh : x.size = S ∧ x.used = tagU ((numAt b (O - 8) : Nat) : Int)
    · rw [if_pos ⟨by omega, hh⟩, if_pos hh]
    · rw [if_neg (fun h => hh h.2), if_neg hh]
theorem ahead_none {b : List UInt8} {O W : Nat} (hW : W = numAt b (O - 8)) (ht : isTag (W : Int) = false) : aheadI b (O : Int) = none := by
  subst hW
  unfold aheadI aheadB
  rw [if_pos (Int.natCast_nonneg _), Int.toNat_natCast, if_neg (fun h => by rw [ht] at h; exact Bool.false_ne_true h.2.2)]
theorem ahead_out {b : List UInt8} {o : Int} (h : ¬ (184 ≤ o ∧ o ≤ b.length)) : aheadI b o = none := by
  unfold aheadI
  split
  · unfold aheadB
    rw [if_neg (fun hh => h (by omega))]
  · rfl
end Go.Own
namespace Go.Proofs.Ytenbpbnffnodhaa
open Go Go.RowKit Go.Own
set_option linter.unusedVariables false
set_option maxRecDepth 100000
section
variable {B : Nat} {w0 w : World} {l : List Ob} {i p : Nat} {A : Ar}
set_option maxHeartbeats 4000000 in
theorem blk_Ahead (h : St B w0 w l) (hi : l[i]? = some (ArT p A)) (o : Int) :
    Calls Try.prog 65 #[arP p, .int .i64 o] w fun e w' => e = .returned (.tuple #[bkV (aheadI A.b o), errO (aheadI A.b o)]) ∧ St B w0 w' l := by
  obtain ⟨hsm, hbs⟩ := ar_small h hi
  have H := Lib.hid h; have HI := Lib.hid hi
  clear h hi
  by_cases c1 : 184 ≤ o
  · by_cases c2 : o ≤ A.b.length
    · obtain ⟨O, rfl⟩ := Int.eq_ofNat_of_zero_le (show 0 ≤ o by omega)
      have hO1 : 184 ≤ O := by omega
      have hO2 : O ≤ A.b.length := by omega
      have hw := numAt_lt A.b (O - 8)
      obtain ⟨W, hW⟩ : ∃ W, W = numAt A.b (O - 8) := ⟨_, rfl⟩
      rw [← hW] at hw
      have HWE := Lib.hid hW
      clear c1 c2 hW
      cases ht : isTag (W : Int) with
      | false =>
        rw [ahead_none HWE.out ht]
        go_enter Try.func65, Try.ntmps65
        go_wp2_with (refine bk_alloc H.out rfl rfl ?_; intro g w1 h1; have H1 := Lib.hid h1; clear h1)
        have kc := ar_Len (p := p) (A := A) H1.out (i := i + 1) HI.out
        with_reducible refine kc.mono ?_
        clear kc
        rintro e w' ⟨rfl, rfl⟩
        go_wp2_with fail
        have kc := ar_Base (p := p) (A := A) H1.out (i := i + 1) HI.out
        with_reducible refine kc.mono ?_
        clear kc
        rintro e w' ⟨rfl, rfl⟩
        go_wp2_with fail
        have kc := ar_WordAt H1.out (i := i + 1) HI.out ((A.base : Int) + ((O : Int) - 8)) (O - 8) (by omega) (by omega)
        rw [← HWE.out] at kc
        with_reducible refine kc.mono ?_
        clear kc
        rintro e w' ⟨rfl, rfl⟩
        go_wp2_with fail
        have kc := tag_Unpack w1 (W : Int) (Int.natCast_nonneg _) (by omega)
        rw [ht] at kc
        with_reducible refine kc.mono ?_
        clear kc
        rintro e w' ⟨rfl, rfl⟩
        clear ht
        go_wp2_with (refine bk_store H1.out 0 rfl rfl _ _ rfl rfl 0 0 false rfl ?_; intro w2 h2; have H2 := Lib.hid h2; clear h2)
        refine bodyPost_ret (results_row2 rfl _ _ g _ _ _ rfl (H2.out.row (i := 0) rfl) Try.underlying77 rfl size_bl) rfl ⟨rfl, H2.out.tail⟩
      | true =>
        obtain ⟨t1, t2, t3⟩ := tagS_isTag ht
        obtain ⟨S, hS⟩ := Int.eq_ofNat_of_zero_le (show 0 ≤ tagS W by omega)
        rw [hS] at t1 t2 t3
        have hS2 : S ≤ 16384 := by omega
        obtain ⟨U, hU⟩ : ∃ U, U = tagU (W : Int) := ⟨_, rfl⟩
        have HU := Lib.hid hU
        obtain ⟨R, hR⟩ : ∃ R, R = aheadI A.b (O : Int) := ⟨_, rfl⟩
        rw [← hR]
        have hR2 := hR.trans (ahead_eq hO1 hO2 HWE.out ht hS)
        obtain ⟨X, hX⟩ : ∃ X, X = blkI A.b ((O : Int) - S) := ⟨_, rfl⟩
        rw [← hX, ← hU] at hR2
        clear hU
        have HX := Lib.hid hX
        clear hR t1 t2 t3 hX
        cases X with
        | none =>
          simp only at hR2
          subst hR2
          go_enter Try.func65, Try.ntmps65
          go_wp2_with (refine bk_alloc H.out rfl rfl ?_; intro g w1 h1; have H1 := Lib.hid h1; clear h1)
          have kc := ar_Len (p := p) (A := A) H1.out (i := i + 1) HI.out
          with_reducible refine kc.mono ?_
          clear kc
          rintro e w' ⟨rfl, rfl⟩
          go_wp2_with fail
          have kc := ar_Base (p := p) (A := A) H1.out (i := i + 1) HI.out
          with_reducible refine kc.mono ?_
          clear kc
          rintro e w' ⟨rfl, rfl⟩
          go_wp2_with fail
          have kc := ar_WordAt H1.out (i := i + 1) HI.out ((A.base : Int) + ((O : Int) - 8)) (O - 8) (by omega) (by omega)
          rw [← HWE.out] at kc
          with_reducible refine kc.mono ?_
          clear kc
          rintro e w' ⟨rfl, rfl⟩
          go_wp2_with fail
          have kc := tag_Unpack w1 (W : Int) (Int.natCast_nonneg _) (by omega)
          rw [ht, hS] at kc
          with_reducible refine kc.mono ?_
          clear kc
          rintro e w' ⟨rfl, rfl⟩
          clear ht hS
          go_wp2_with fail
          have kc := blk_Get H1.out (i := i + 1) HI.out ((O : Int) - S)
          rw [← HX.out, show bkV none = .agg #[.int .i64 0, .int .i64 0, .bool false] from rfl, show errO none = .iface 183 (.int .i64 3) from rfl] at kc
          with_reducible refine kc.mono ?_
          clear kc
          rintro e w3 ⟨rfl, h3⟩
          have H3 := Lib.hid h3
          clear h3
          go_wp2_with (first | (refine bk_alloc H3.out rfl rfl ?_; intro g4 w4 h4; have H4 := Lib.hid h4; clear h4) | (refine bk_store H4.out 0 rfl rfl _ _ rfl rfl 0 0 false rfl ?_; intro w5 h5; have H5 := Lib.hid h5; clear h5 H4) | (refine bk_store H5.out 1 rfl rfl _ _ rfl rfl 0 0 false rfl ?_; intro w2 h2; have H2 := Lib.hid h2; clear h2))
          refine bodyPost_ret (results_row2 rfl _ _ g _ _ _ rfl (H2.out.row (i := 1) rfl) Try.underlying77 rfl size_bl) rfl ⟨rfl, H2.out.tail.tail⟩
        | some x =>
          have hx := HX.out
          have hxb : 0 ≤ (x.off : Int) ∧ x.size ≤ 16384 := by
            unfold blkI at hx
            split at hx
            · have := blkAt_some hx.symm; omega
            · cases hx
          obtain ⟨hxb1, hxb2⟩ := hxb
          clear hx
          have HR := Lib.hid hR2
          clear hR2
          go_enter Try.func65, Try.ntmps65
          go_wp2_with (refine bk_alloc H.out rfl rfl ?_; intro g w1 h1; have H1 := Lib.hid h1; clear h1)
          have kc := ar_Len (p := p) (A := A) H1.out (i := i + 1) HI.out
          with_reducible refine kc.mono ?_
          clear kc
          rintro e w' ⟨rfl, rfl⟩
          go_wp2_with fail
          have kc := ar_Base (p := p) (A := A) H1.out (i := i + 1) HI.out
          with_reducible refine kc.mono ?_
          clear kc
          rintro e w' ⟨rfl, rfl⟩
          go_wp2_with fail
          have kc := ar_WordAt H1.out (i := i + 1) HI.out ((A.base : Int) + ((O : Int) - 8)) (O - 8) (by omega) (by omega)
          rw [← HWE.out] at kc
          with_reducible refine kc.mono ?_
          clear kc
          rintro e w' ⟨rfl, rfl⟩
          go_wp2_with fail
          have kc := tag_Unpack w1 (W : Int) (Int.natCast_nonneg _) (by omega)
          rw [ht, hS, ← HU.out] at kc
          with_reducible refine kc.mono ?_
          clear kc
          rintro e w' ⟨rfl, rfl⟩
          clear ht hS
          go_wp2_with fail
          have kc := blk_Get H1.out (i := i + 1) HI.out ((O : Int) - S)
          rw [← HX.out, show bkV (some x) = .agg #[.int .i64 x.off, .int .i64 x.size, .bool x.used] from rfl, show errO (some x) = .nilIface from rfl] at kc
          with_reducible refine kc.mono ?_
          clear kc
          rintro e w3 ⟨rfl, h3⟩
          have H3 := Lib.hid h3
          clear h3
          by_cases q1 : x.size = S
          · subst q1
            by_cases q2 : x.used = U
            · subst q2
              go_wp2_with (first | (refine bk_alloc H3.out rfl rfl ?_; intro g4 w4 h4; have H4 := Lib.hid h4; clear h4) | (refine bk_store H4.out 0 rfl rfl _ _ rfl rfl (x.off : Int) (x.size : Int) x.used rfl ?_; intro w5 h5; have H5 := Lib.hid h5; clear h5 H4; have k1 : w5.cell? ⟨g4, 1, none⟩ = some (.int .i64 x.size) := (H5.out.row (i := 0) rfl).cell 1; have k2 : w5.cell? ⟨g4, 2, none⟩ = some (.bool x.used) := (H5.out.row (i := 0) rfl).cell 2) | (refine bk_load H5.out 0 rfl rfl _ rfl rfl ?_) | (refine bk_store H5.out 1 rfl rfl _ _ rfl rfl (x.off : Int) (x.size : Int) x.used rfl ?_; intro w2 h2; have H2 := Lib.hid h2; clear h2))
              refine bodyPost_ret (results_row2 rfl _ _ g _ _ _ rfl (H2.out.row (i := 1) rfl) Try.underlying77 rfl size_bl) rfl ⟨by rw [HR.out]; simp only; rw [if_pos ⟨trivial, trivial⟩]; rfl, H2.out.tail.tail⟩
            · have hq : U = !x.used := by revert q2; cases x.used <;> cases U <;> simp
              subst hq
              have HQ := Lib.hid q2
              clear q2
              go_wp2_with (first | (refine bk_alloc H3.out rfl rfl ?_; intro g4 w4 h4; have H4 := Lib.hid h4; clear h4) | (refine bk_store H4.out 0 rfl rfl _ _ rfl rfl (x.off : Int) (x.size : Int) x.used rfl ?_; intro w5 h5; have H5 := Lib.hid h5; clear h5 H4; have k1 : w5.cell? ⟨g4, 1, none⟩ = some (.int .i64 x.size) := (H5.out.row (i := 0) rfl).cell 1; have k2 : w5.cell? ⟨g4, 2, none⟩ = some (.bool x.used) := (H5.out.row (i := 0) rfl).cell 2) | (refine bk_store H5.out 1 rfl rfl _ _ rfl rfl 0 0 false rfl ?_; intro w2 h2; have H2 := Lib.hid h2; clear h2))
              refine bodyPost_ret (results_row2 rfl _ _ g _ _ _ rfl (H2.out.row (i := 1) rfl) Try.underlying77 rfl size_bl) rfl ⟨by rw [HR.out]; simp only; rw [if_neg (fun h => HQ.out h.2)]; rfl, H2.out.tail.tail⟩
          · have q1i : ¬ ((x.size : Int) = (S : Int)) := by omega
            have HQ := Lib.hid q1
            clear q1
            go_wp2_with (first | (refine bk_alloc H3.out rfl rfl ?_; intro g4 w4 h4; have H4 := Lib.hid h4; clear h4) | (refine bk_store H4.out 0 rfl rfl _ _ rfl rfl (x.off : Int) (x.size : Int) x.used rfl ?_; intro w5 h5; have H5 := Lib.hid h5; clear h5 H4; have k1 : w5.cell? ⟨g4, 1, none⟩ = some (.int .i64 x.size) := (H5.out.row (i := 0) rfl).cell 1; have k2 : w5.cell? ⟨g4, 2, none⟩ = some (.bool x.used) := (H5.out.row (i := 0) rfl).cell 2) | (refine bk_store H5.out 1 rfl rfl _ _ rfl rfl 0 0 false rfl ?_; intro w2 h2; have H2 := Lib.hid h2; clear h2))
            refine bodyPost_ret (results_row2 rfl _ _ g _ _ _ rfl (H2.out.row (i := 1) rfl) Try.underlying77 rfl size_bl) rfl ⟨by rw [HR.out]; simp only; rw [if_neg (fun h => HQ.out h.1)]; rfl, H2.out.tail.tail⟩
    · rw [ahead_out (fun h => c2 h.2)]
      have c3 : (A.b.length : Int) < o := by omega
      clear c2
      go_enter Try.func65, Try.ntmps65
      go_wp2_with (refine bk_alloc H.out rfl rfl ?_; intro g w1 h1; have H1 := Lib.hid h1; clear h1)
      have kc := ar_Len (p := p) (A := A) H1.out (i := i + 1) HI.out
      with_reducible refine kc.mono ?_
      clear kc
      rintro e w' ⟨rfl, rfl⟩
      go_wp2_with (refine bk_store H1.out 0 rfl rfl _ _ rfl rfl 0 0 false rfl ?_; intro w2 h2; have H2 := Lib.hid h2; clear h2)
      refine bodyPost_ret (results_row2 rfl _ _ g _ _ _ rfl (H2.out.row (i := 0) rfl) Try.underlying77 rfl size_bl) rfl ⟨rfl, H2.out.tail⟩
  · rw [ahead_out (fun h => c1 h.1)]
    have c3 : o < 184 := by omega
    clear c1
    go_enter Try.func65, Try.ntmps65
    go_wp2_with (first | (refine bk_alloc H.out rfl rfl ?_; intro g w1 h1; have H1 := Lib.hid h1; clear h1) | (refine bk_store H1.out 0 rfl rfl _ _ rfl rfl 0 0 false rfl ?_; intro w2 h2; have H2 := Lib.hid h2; clear h2))
    refine bodyPost_ret (results_row2 rfl _ _ g _ _ _ rfl (H2.out.row (i := 0) rfl) Try.underlying77 rfl size_bl) rfl ⟨rfl, H2.out.tail⟩
end
end Go.Proofs.Ytenbpbnffnodhaa

/- Blocks of an arena: the program's Walk. -/
namespace Go.Own
theorem walkFrom_step {b : List UInt8} {f O : Nat} (h : O < b.length) : walkFrom b (f + 1) O = match blkAt b O with | none => none | some x => (walkFrom b f (O + x.size)).map (x :: ·) := by
  rw [walkFrom, if_pos h]
  try (cases blkAt b O <;> rfl)
theorem walkFrom_end {b : List UInt8} {f O : Nat} (h : ¬ O < b.length) : walkFrom b f O = some [] := by
  cases f <;> rw [walkFrom, if_neg h]
end Go.Own
namespace Go.Proofs.Ytenbpbnffnodhaa
open Go Go.RowKit Go.Own
set_option linter.unusedVariables false
set_option maxRecDepth 100000
def errW (x : Option (List Blk)) : Value := match x with | none => .iface 183 (.int .i64 3) | some _ => .nilIface
section
variable {B : Nat} {w0 w : World} {l : List Ob} {i p : Nat} {A : Ar}
set_option maxHeartbeats 4000000 in
theorem blk_Walk (h : St B w0 w l) (hi : l[i]? = some (ArT p A)) :
    Calls Try.prog 62 #[arP p] w fun e w' => ∃ v, e = .returned (.tuple #[v, errW (walkB A.b)]) ∧ St B w0 w' (BlsO v ((walkB A.b).getD []) :: l) := by
  obtain ⟨hsm, hbs⟩ := ar_small h hi
  have hs0 : St B w0 w (BlsO (.slice none 0 0) [] :: l) := h.addOwn (Below.refl _ _) (World.ownsRow_nil _ _ _ _)
  have H0 := Lib.hid hs0; have HI := Lib.hid hi
  by_cases c1 : A.b.length < 184
  · have hn : walkB A.b = none := by unfold walkB; rw [if_pos c1]
    rw [hn]
    have KL := Lib.hid (ar_Len h hi)
    clear hs0 h hi hn
    go_enter Try.func62, Try.ntmps62
    go_wp2_with fail
    with_reducible refine KL.out.mono ?_
    rintro e w' ⟨rfl, rfl⟩
    go_wp2
    go_ret2
    exact ⟨_, rfl, H0.out⟩
  · obtain ⟨R, hR⟩ : ∃ R, R = walkB A.b := ⟨_, rfl⟩
    rw [← hR]
    have hR2 : R = (walkFrom A.b A.b.length 184).map ([] ++ ·) := by
      rw [hR]; unfold walkB; rw [if_neg c1]
      cases walkFrom A.b A.b.length 184 <;> rfl
    have KL := Lib.hid (ar_Len h hi)
    have HR := Lib.hid hR2
    have hc : 184 ≤ A.b.length := by omega
    clear hs0 h hi hR hR2 c1
    go_enter Try.func62, Try.ntmps62
    go_wp2_with fail
    with_reducible refine KL.out.mono ?_
    rintro e w' ⟨rfl, rfl⟩
    go_wp2
    clear KL
    go_loopw [4, 5] (fun va vo wr => ∃ (f O : Nat) (L : List Blk), vo = .int .i64 O ∧ 184 ≤ O ∧ St B w0 wr (BlsO va L :: l) ∧ R = (walkFrom A.b f O).map (L ++ ·) ∧ A.b.length ≤ f + O ∧ L.length ≤ O ∧ O ≤ 40000) (fun _ vo _ => 100000 - (intOf vo).toNat)
    case atStart => exact ⟨_, 184, [], rfl, Nat.le_refl _, H0.out, HR.out, by omega, Nat.zero_le _, by omega⟩
    case round =>
      obtain ⟨f, O, L, rfl, hO, hs, hw, hf, hL, hO4⟩ := hrel
      have kc := ar_Len hs (i := i + 1) HI.out
      by_cases hlt : O < A.b.length
      · obtain ⟨f', rfl⟩ : ∃ f', f = f' + 1 := ⟨f - 1, by omega⟩
        rw [walkFrom_step hlt] at hw
        have HS := Lib.hid hs
        obtain ⟨X, hX⟩ : ∃ X, X = blkAt A.b O := ⟨_, rfl⟩
        rw [← hX] at hw
        have kg := blk_Get hs (i := i + 1) HI.out (O : Int)
        rw [show blkI A.b (O : Int) = X by unfold blkI; rw [if_pos (Int.natCast_nonneg _), Int.toNat_natCast, hX]] at kg
        clear hs
        cases X with
        | none =>
          simp only [Option.map_none] at hw
          subst hw
          rw [show bkV none = .agg #[.int .i64 0, .int .i64 0, .bool false] from rfl, show errO none = .iface 183 (.int .i64 3) from rfl] at kg
          clear hX
          go_wp2_with fail
          with_reducible refine kc.mono ?_
          clear kc
          rintro e w' ⟨rfl, rfl⟩
          go_wp2_with fail
          with_reducible refine kg.mono ?_
          clear kg
          rintro e w3 ⟨rfl, h3⟩
          have H3 := Lib.hid h3
          clear h3
          go_wp2_with (first | (refine bk_alloc H3.out rfl rfl ?_; intro g4 w4 h4; have H4 := Lib.hid h4; clear h4) | (refine bk_store H4.out 0 rfl rfl _ _ rfl rfl 0 0 false rfl ?_; intro w5 h5; have H5 := Lib.hid h5; clear h5 H4))
          go_ret2
          have h6 := H5.out.tail.tail
          exact ⟨_, rfl, h6.addOwn (Below.refl _ _) (World.ownsRow_nil _ _ _ _)⟩
        | some x =>
          obtain ⟨x1, x2, x3, x4, x5, x6, x7, x8⟩ := blkAt_some hX.symm
          rw [show bkV (some x) = .agg #[.int .i64 x.off, .int .i64 x.size, .bool x.used] from rfl, show errO (some x) = .nilIface from rfl] at kg
          have HW := Lib.hid hw; have HX1 := Lib.hid x1
          have hL2 : L.length ≤ 1000000 := by omega
          clear hX hw x1 x3 x6 x8
          go_wp2_with fail
          with_reducible refine kc.mono ?_
          clear kc
          rintro e w' ⟨rfl, rfl⟩
          go_wp2_with fail
          with_reducible refine kg.mono ?_
          clear kg
          rintro e w3 ⟨rfl, h3⟩
          have H3 := Lib.hid h3
          clear h3
          go_wp2_with (first | (refine bk_alloc H3.out rfl rfl ?_; intro g4 w4 h4; have H4 := Lib.hid h4; clear h4) | (refine bk_store H4.out 0 rfl rfl _ _ rfl rfl (x.off : Int) (x.size : Int) x.used rfl ?_; intro w5 h5; have H5 := Lib.hid h5; clear h5 H4) | (refine bk_load H5.out 0 rfl rfl _ rfl rfl ?_) | (at_builtin; go_must (refine bls_app H5.out 1 rfl rfl (.tmp 25) (.tmp 27) rfl rfl x.off x.size x.used x rfl rfl rfl rfl hL2 ?_; intro v6 w6 h6; have H6 := Lib.hid h6; clear h6; have k1 : w6.cell? ⟨g4, 1, none⟩ = some (.int .i64 x.size) := (H6.out.row (i := 0) rfl).cell 1)))
          refine ⟨⟨f', O + x.size, L ++ [x], by go_num, by omega, H6.out.tail, ?_, by omega, by rw [List.length_append, List.length_singleton]; omega, by omega⟩, by simp [intOf]; omega⟩
          rw [HW.out]
          simp only [Option.map_map]
          congr 1
          funext y
          simp
      · rw [walkFrom_end hlt] at hw
        have HS := Lib.hid hs; have HW := Lib.hid hw
        clear hs hw
        go_wp2_with fail
        with_reducible refine kc.mono ?_
        clear kc
        rintro e w' ⟨rfl, rfl⟩
        go_wp2
        go_ret2
        refine ⟨_, by rw [HW.out]; rfl, ?_⟩
        rw [HW.out]
        simp only [Option.map_some, List.append_nil, Option.getD_some]
        exact HS.out
end
end Go.Proofs.Ytenbpbnffnodhaa

/- Blocks of bytes: the reference's calls. -/
namespace Go.Proofs.Ytenbpbnffnodhaa
open Go Go.RowKit Go.Own
set_option linter.unusedVariables false
set_option maxRecDepth 100000
section
variable {B : Nat} {w0 w : World} {l : List Ob}
end
end Go.Proofs.Ytenbpbnffnodhaa

/- Blocks of bytes: the reference's Ahead and Walk. -/
namespace Go.Proofs.Ytenbpbnffnodhaa
open Go Go.RowKit Go.Own
set_option linter.unusedVariables false
set_option maxRecDepth 100000
section
variable {B : Nat} {w0 w : World} {l : List Ob}
end
end Go.Proofs.Ytenbpbnffnodhaa

/- A region that draws its order: what its reads are to yield hangs on one condition on the world, which every heavy operation is to bring about anew. -/
namespace Go.Own
open Go Go.RowKit
def FlowS (P : Program) (ops : List Oper) (Q : Exit → Act → World → Prop) (S : World → Prop) (fuel : Nat) (listed : Array Bool) (a : Act) (W : World) : Prop :=
  PanicsSame Q ∧ (S W → wpAnyH P .any ops.toArray Q S fuel listed a W)
section
variable {P : Program} {ops : List Oper} {Q : Exit → Act → World → Prop} {S : World → Prop} {fuel : Nat} {listed : Array Bool} {a a' : Act} {W : World}
theorem flows_begin {id : Nat} {l : List Oper} (hm : P.follows .mixedOrders = true) (n : Nat) (hn : l.length = n) (hq : PanicsSame Q) (hS : S W.drew) (h : PanicsSame Q → FlowS P l Q S n (List.replicate n false).toArray a W.drew) : (Code.region id l.toArray true).wp P Q a W := by
  subst hn
  refine wp_region_held (S := S) hm ?_
  have := (h hq).2 hS
  simpa using this
theorem flows_take (i : Nat) {oi : Oper} {v : Value} (hp : PanicsSame Q) (hi : (ops.drop i).head? = some oi) (hc : (Region.noSelect ops.toArray && Region.free .any ops.toArray listed i && (Region.ready .any ops.toArray listed).contains i) = true)
    (hw : Region.wanted oi (yielded ops.toArray a.tmps) = true) (hrun : ∀ w, S w → (execOp a.eval oi).run P w = .ok (.value v) w) (ha : a.put oi.dst v = a')
    (h : FlowS P ops Q S fuel (listed.setIfInBounds i true) a' W) : FlowS P ops Q S (fuel + 1) listed a W := by
  subst ha
  simp only [Bool.and_eq_true] at hc
  exact ⟨hp, fun hS => wpAnyH_take (at_of hi) hc.1.1 hc.1.2 hc.2 (fun c a' w' q => hp c _ _ _ (put_defers _ _ _) q) (.inl ⟨hw, fun w' k' => hrun w' k'⟩) hS (h.2 hS)⟩
theorem flows_one (i : Nat) {oi : Oper} (hp : PanicsSame Q) (hi : (ops.drop i).head? = some oi) (hr : Region.ready .any ops.toArray listed = [i]) (hw : Region.wanted oi (yielded ops.toArray a.tmps) = true)
    (h : oi.wp P a W (fun a' w' => S w' ∧ FlowS P ops Q S fuel (listed.setIfInBounds i true) a' w') Q) : FlowS P ops Q S (fuel + 1) listed a W :=
  ⟨hp, fun _ => wpAnyH_all hr (by simp) fun j hj => by
    obtain rfl : j = i := by simpa using hj
    refine wpOp_mono (K := fun a' w' => S w' ∧ FlowS P ops Q S fuel (listed.setIfInBounds j true) a' w') (fun a' w' h' => ⟨h'.1, h'.2.2 h'.1⟩) ?_
    unfold wpOp
    simp only [at_of hi, hw, if_true]
    exact .inl h⟩
theorem flows_any (rs : List Nat) (hp : PanicsSame Q) (hr : Region.ready .any ops.toArray listed = rs) (hne : rs ≠ [])
    (h : ∀ i ∈ rs, ∃ oi, (ops.drop i).head? = some oi ∧ Region.wanted oi (yielded ops.toArray a.tmps) = true ∧
      oi.wp P a W (fun a' w' => S w' ∧ FlowS P ops Q S fuel (listed.setIfInBounds i true) a' w') Q) : FlowS P ops Q S (fuel + 1) listed a W :=
  ⟨hp, fun _ => wpAnyH_all hr hne fun j hj => by
    obtain ⟨oi, hi, hw, h⟩ := h j hj
    refine wpOp_mono (K := fun a' w' => S w' ∧ FlowS P ops Q S fuel (listed.setIfInBounds j true) a' w') (fun a' w' h' => ⟨h'.1, h'.2.2 h'.1⟩) ?_
    unfold wpOp
    simp only [at_of hi, hw, if_true]
    exact .inl h⟩
theorem flows_done (hp : PanicsSame Q) (hr : Region.ready .any ops.toArray listed = []) (h : Q .normal a W) : FlowS P ops Q S fuel listed a W :=
  ⟨hp, fun _ => wpAnyH_done hr h fuel⟩
end
end Go.Own

/- Blocks of an arena: the program's Set. -/
namespace Go.Own
open Go Go.RowKit
theorem St.apart {B : Nat} {w0 w : World} {l : List Ob} {i j g p : Nat} {e T e' : TypeId} {cs : List Value} {A : Ar} {v : Value} (h : St B w0 w l) (hi : l[i]? = some (RowO g e cs)) (hj : l[j]? = some (ArO T e' p A)) (hij : i < j) (ha : ArAt T e' w p A v) :
    ¬ v.ownBlock = some g := by
  obtain ⟨F, G, ⟨_, hF, _⟩, ⟨v', ha', hG, _⟩, hd⟩ := h.two hi hj hij
  have e1 := ha.row; have e2 := ha'.row
  unfold Row at e1 e2
  rw [e1] at e2
  injection e2 with e2; injection e2 with e2
  have e3 : v = v' := by simpa using e2
  subst e3
  intro hv
  exact hd g hF (hG g (.inr hv))
/-- Both tags are laid, if such a block may be there. -/
def setI (b : List UInt8) (o s : Int) (u : Bool) : Option (List UInt8) := if isSize s = true ∧ couldB b o s = true then some (setB b ⟨o.toNat, s.toNat, u⟩) else none
end Go.Own
namespace Go.Proofs.Ytenbpbnffnodhaa
open Go Go.RowKit Go.Own
set_option linter.unusedVariables false
set_option maxRecDepth 100000
def errS (x : Option (List UInt8)) : Value := match x with | none => .iface 183 (.int .i64 1) | some _ => .nilIface
section
variable {B : Nat} {w0 w : World} {l : List Ob} {i p : Nat} {A : Ar}
set_option maxHeartbeats 4000000 in
theorem blk_Set (h : St B w0 w l) (hi : l[i]? = some (ArT p A)) (o s : Int) (u : Bool) :
    Calls Try.prog 61 #[arP p, .agg #[.int .i64 o, .int .i64 s, .bool u]] w fun e w' => e = .returned (errS (setI A.b o s u)) ∧ St B w0 w' (l.set i (ArT p { A with b := (setI A.b o s u).getD A.b })) := by
  obtain ⟨hsm, hbs⟩ := ar_small h hi
  have H := Lib.hid h; have HI := Lib.hid hi
  clear h hi
  cases hz : isSize s with
  | false =>
    have hn : setI A.b o s u = none := by unfold setI; rw [if_neg (fun h => by rw [hz] at h; exact Bool.false_ne_true h.1)]
    have hS : (ArT p { A with b := (none : Option (List UInt8)).getD A.b }) = ArT p A := rfl
    rw [hn, hS, set_same HI.out]
    have ht : tagOf s u = 0 := tagOf_zero.2 hz
    clear hn hS hz
    go_enter Try.func61, Try.ntmps61
    go_wp2_with fail
    have h1 := H.out.addRow 77 [.int .i64 o, .int .i64 s, .bool u]
    generalize w.alloc (Obj.cells #[Value.int IntKind.i64 o, Value.int IntKind.i64 s, Value.bool u] 77 (0, 0)) = w1 at h1 ⊢
    generalize w.heap.size = g at h1 ⊢
    have H1 := Lib.hid h1
    clear h1
    have kc := tag_Pack w1 s u
    rw [ht] at kc
    with_reducible refine kc.mono ?_
    clear kc ht
    rintro e w' ⟨rfl, rfl⟩
    go_wp2
    go_ret
    exact ⟨rfl, H1.out.tail⟩
  | true =>
    have hx := tagOf_rng s u
    have hx0 : tagOf s u ≠ 0 := fun h => by rw [tagOf_zero.1 h] at hz; cases hz
    obtain ⟨X, hX⟩ : ∃ X : Nat, tagOf s u = X := ⟨(tagOf s u).toNat, by omega⟩
    have hX0 : ((X : Int) == 0) = false := by rw [beq_eq_false_iff_ne]; omega
    have hX1 : X ≤ 16385 := by omega
    have hzz := (isSize_iff s).1 hz
    cases hc : couldB A.b o s with
    | false =>
      have hn : setI A.b o s u = none := by unfold setI; rw [if_neg (fun h => by rw [hc] at h; exact Bool.false_ne_true h.2)]
      have hS : (ArT p { A with b := (none : Option (List UInt8)).getD A.b }) = ArT p A := rfl
      rw [hn, hS, set_same HI.out]
      clear hn hS hz hzz hx hx0
      go_enter Try.func61, Try.ntmps61
      go_wp2_with fail
      have h1 := H.out.addRow 77 [.int .i64 o, .int .i64 s, .bool u]
      generalize w.alloc (Obj.cells #[Value.int IntKind.i64 o, Value.int IntKind.i64 s, Value.bool u] 77 (0, 0)) = w1 at h1 ⊢
      generalize w.heap.size = g at h1 ⊢
      have H1 := Lib.hid h1
      clear h1
      have kc := tag_Pack w1 s u
      rw [hX] at kc
      with_reducible refine kc.mono ?_
      clear kc hX
      rintro e w' ⟨rfl, rfl⟩
      have c0 : w1.cell? ⟨g, 0, none⟩ = some (.int .i64 o) := (H1.out.row (i := 0) rfl).cell 0
      have c1 : w1.cell? ⟨g, 1, none⟩ = some (.int .i64 s) := (H1.out.row (i := 0) rfl).cell 1
      have kc := blk_fits H1.out (i := i + 1) HI.out o s
      rw [hc] at kc
      go_wp2_with fail
      with_reducible refine kc.mono ?_
      clear kc hc
      rintro e w' ⟨rfl, rfl⟩
      go_wp2
      go_ret
      exact ⟨rfl, H1.out.tail⟩
    | true =>
      obtain ⟨c1, c2, c3, c4⟩ := couldB_iff.1 hc
      obtain ⟨O, ho⟩ := Int.eq_ofNat_of_zero_le (show 0 ≤ o by omega)
      obtain ⟨S, hs⟩ := Int.eq_ofNat_of_zero_le (show 0 ≤ s by omega)
      have hOS : O + S ≤ A.b.length := by omega
      have hn : setI A.b o s u = some (layAt (layAt A.b O X) (O + S - 8) X) := by
        unfold setI setB tagB
        rw [if_pos ⟨hz, hc⟩]
        simp only
        rw [show o.toNat = O by omega, show s.toNat = S by omega, ← hs, hX, Int.toNat_natCast]
      rw [hn]
      simp only [Option.getD_some]
      rw [show errS (some (layAt (layAt A.b O X) (O + S - 8) X)) = .nilIface from rfl]
      have ho1 : 184 ≤ o := by omega
      have ho2 : o ≤ 16384 := by omega
      have hs1 : 32 ≤ s := by omega
      have hs2 : s ≤ 16384 := by omega
      have HOS := Lib.hid (And.intro ho (And.intro hs hOS))
      have HC := Lib.hid hc
      clear hn hz hzz hx hx0 c1 c2 c3 c4 hOS ho hs
      go_enter Try.func61, Try.ntmps61
      go_wp2_with fail
      have h1 := H.out.addRow 77 [.int .i64 o, .int .i64 s, .bool u]
      generalize w.alloc (Obj.cells #[Value.int IntKind.i64 o, Value.int IntKind.i64 s, Value.bool u] 77 (0, 0)) = w1 at h1 ⊢
      generalize w.heap.size = g at h1 ⊢
      have H1 := Lib.hid h1
      clear h1
      have kc := tag_Pack w1 s u
      rw [hX] at kc
      with_reducible refine kc.mono ?_
      clear kc hX
      rintro e w' ⟨rfl, rfl⟩
      have c0 : w1.cell? ⟨g, 0, none⟩ = some (.int .i64 o) := (H1.out.row (i := 0) rfl).cell 0
      have c1 : w1.cell? ⟨g, 1, none⟩ = some (.int .i64 s) := (H1.out.row (i := 0) rfl).cell 1
      have kc := blk_fits H1.out (i := i + 1) HI.out o s
      rw [hc] at kc
      go_wp2_with fail
      with_reducible refine kc.mono ?_
      clear kc hc
      rintro e w' ⟨rfl, rfl⟩
      go_wp2
      clear c0 c1
      obtain ⟨v, hva, hto⟩ := H1.out.drew.arTo (i := i + 1) HI.out
      have HNE := Lib.hid (H1.out.drew.apart (i := 0) (j := i + 1) rfl HI.out (by omega) hva)
      have HR := Lib.hid (H1.out.drew.row (i := 0) rfl)
      have HV := Lib.hid hva; have HTO := Lib.hid hto
      have u0 : IntKind.u64.wrap o = o := IntWalk.u64_in _ (by omega)
      have u1 : IntKind.u64.wrap ((A.base : Int) + o) = (A.base : Int) + o := IntWalk.u64_in _ (by omega)
      clear hva hto
      refine flowe_begin (F := fun k => v.ownBlock = some k) hmixed 10 rfl (by repeat (first | with_reducible refine ps_then ?_ | with_reducible refine ps_block ?_ | with_reducible exact ps_body | refine ps_then ?_ | refine ps_block ?_ | exact ps_body)) (fun hps => ?_)
      simp only [List.replicate]
      have kk := (Keep.refl (fun k => v.ownBlock = some k) (w1)).drew
      refine flowe_take 0 (v := ?_) (a' := ?_) hps rfl (by kernel_rfl) rfl ?_ ?_ ?_
      rotate_left 2
      · intro w' hk; go_simp; try rfl
      · simp only [Act.put, List.setIfInBounds_toArray, List.set_cons_succ, List.set_cons_zero]; try rfl
      refine flowe_take 1 (v := ?_) (a' := ?_) hps rfl (by kernel_rfl) rfl ?_ ?_ ?_
      rotate_left 2
      · intro w' hk; go_simp; try rfl
      · simp only [Act.put, List.setIfInBounds_toArray, List.set_cons_succ, List.set_cons_zero]; try rfl
      refine flowe_take 3 (v := ?_) (a' := ?_) hps rfl (by kernel_rfl) rfl ?_ ?_ ?_
      rotate_left 2
      · intro w' hk; go_simp; try rfl
      · simp only [Act.put, List.setIfInBounds_toArray, List.set_cons_succ, List.set_cons_zero]; try rfl
      refine flowe_take 4 (v := ?_) (a' := ?_) hps rfl (by kernel_rfl) rfl ?_ ?_ ?_
      rotate_left 2
      · intro w' hk; have hr := (HR.out.keep hk HNE.out).cell 0; simp only [List.getElem?_cons_succ, List.getElem?_cons_zero] at hr; go_simp; try rfl
      · simp only [Act.put, List.setIfInBounds_toArray, List.set_cons_succ, List.set_cons_zero]; try rfl
      refine flowe_take 5 (v := ?_) (a' := ?_) hps rfl (by kernel_rfl) rfl ?_ ?_ ?_
      rotate_left 2
      · intro w' hk; go_simp; try rfl
      · simp only [Act.put, List.setIfInBounds_toArray, List.set_cons_succ, List.set_cons_zero]; try rfl
      refine flowe_take 7 (v := ?_) (a' := ?_) hps rfl (by kernel_rfl) rfl ?_ ?_ ?_
      rotate_left 2
      · intro w' hk; go_simp; try rfl
      · simp only [Act.put, List.setIfInBounds_toArray, List.set_cons_succ, List.set_cons_zero]; try rfl
      refine flowe_one 2 hps rfl (by kernel_rfl) rfl (wp_next (fun K hK => ?_))
      go_simp
      have kc := arena_Base _ p A v HV.out
      with_reducible refine kc.mono ?_
      clear kc
      rintro e w' ⟨rfl, rfl⟩
      refine hK _ _ (flow_step kk ?_ ?_)
      · first | exact kp | exact Keep.refl _ _ | exact (Keep.refl _ _).alloc _
      clear kk hK; try clear kp
      intro kk
      refine flowe_take 6 (v := ?_) (a' := ?_) hps rfl (by kernel_rfl) rfl ?_ ?_ ?_
      rotate_left 2
      · intro w' hk; go_simp; try rfl
      · simp only [Act.put, List.setIfInBounds_toArray, List.set_cons_succ, List.set_cons_zero]; try rfl
      refine flowe_one 8 hps rfl (by kernel_rfl) rfl (wp_next (fun K hK => ?_))
      go_simp
      have kc := arena_SetWord_ok _ p A v HV.out ((A.base : Int) + o) O (by have := HOS.out; omega) (X : Int) X rfl (by omega) (by have := HOS.out; omega)
      with_reducible refine kc.mono ?_
      clear kc
      rintro e w2 ⟨rfl, hv2, k2⟩
      have HV2 := Lib.hid hv2
      have h2 := HTO.out _ _ v hv2 (k2.mono fun _ _ h => .inr h) (.inl rfl)
      rw [List.set_cons_succ] at h2
      have H2 := Lib.hid h2
      have kp := k2
      clear hv2 k2 h2
      refine hK _ _ (flow_step kk ?_ ?_)
      · first | exact kp | exact Keep.refl _ _ | exact (Keep.refl _ _).alloc _
      clear kk hK; try clear kp
      intro kk
      refine flowe_take 9 (v := ?_) (a' := ?_) hps rfl (by kernel_rfl) rfl ?_ ?_ ?_
      rotate_left 2
      · intro w' hk; go_simp; try rfl
      · simp only [Act.put, List.setIfInBounds_toArray, List.set_cons_succ, List.set_cons_zero]; try rfl
      refine flowe_done hps (by kernel_rfl) ?_
      clear kk HR HV HTO u0 u1 HNE HV2
      go_wp2
      have hil : i < l.length := (List.getElem?_eq_some_iff.1 HI.out).1
      have hi2 : (RowO g 77 [.int .i64 o, .int .i64 s, .bool u] :: l.set i (ArT p { A with b := layAt A.b O X }))[i + 1]? = some (ArT p { A with b := layAt A.b O X }) := by
        rw [List.getElem?_cons_succ]; exact List.getElem?_set_self hil
      have h2' : St B w0 w2 (RowO g 77 [.int .i64 o, .int .i64 s, .bool u] :: l.set i (ArT p { A with b := layAt A.b O X })) := H2.out
      obtain ⟨v', hva, hto⟩ := h2'.drew.arTo (i := i + 1) hi2
      have HNE := Lib.hid (h2'.drew.apart (i := 0) (j := i + 1) rfl hi2 (by omega) hva)
      have HR := Lib.hid (h2'.drew.row (i := 0) rfl)
      have HV := Lib.hid hva; have HTO := Lib.hid hto
      have hll : (layAt A.b O X).length = A.b.length := layAt_length A.b O X (by have := HOS.out; omega)
      have HLL := Lib.hid hll
      have u0 : IntKind.i64.wrap (o + s) = o + s := IntWalk.i64_in _ (by omega)
      have u1 : IntKind.i64.wrap (o + s - 8) = o + s - 8 := IntWalk.i64_in _ (by omega)
      have u2 : IntKind.u64.wrap (o + s - 8) = o + s - 8 := IntWalk.u64_in _ (by omega)
      have u3 : IntKind.u64.wrap ((A.base : Int) + (o + s - 8)) = (A.base : Int) + (o + s - 8) := IntWalk.u64_in _ (by omega)
      clear hva hto hi2 h2' hll hil
      refine flowe_begin (F := fun k => v'.ownBlock = some k) hmixed 14 rfl (by repeat (first | with_reducible refine ps_then ?_ | with_reducible refine ps_block ?_ | with_reducible exact ps_body | refine ps_then ?_ | refine ps_block ?_ | exact ps_body)) (fun hps => ?_)
      simp only [List.replicate]
      have kk := (Keep.refl (fun k => v'.ownBlock = some k) (w2)).drew
      refine flowe_take 0 (v := ?_) (a' := ?_) hps rfl (by kernel_rfl) rfl ?_ ?_ ?_
      rotate_left 2
      · intro w' hk; go_simp; try rfl
      · simp only [Act.put, List.setIfInBounds_toArray, List.set_cons_succ, List.set_cons_zero]; try rfl
      refine flowe_take 1 (v := ?_) (a' := ?_) hps rfl (by kernel_rfl) rfl ?_ ?_ ?_
      rotate_left 2
      · intro w' hk; go_simp; try rfl
      · simp only [Act.put, List.setIfInBounds_toArray, List.set_cons_succ, List.set_cons_zero]; try rfl
      refine flowe_take 3 (v := ?_) (a' := ?_) hps rfl (by kernel_rfl) rfl ?_ ?_ ?_
      rotate_left 2
      · intro w' hk; go_simp; try rfl
      · simp only [Act.put, List.setIfInBounds_toArray, List.set_cons_succ, List.set_cons_zero]; try rfl
      refine flowe_take 4 (v := ?_) (a' := ?_) hps rfl (by kernel_rfl) rfl ?_ ?_ ?_
      rotate_left 2
      · intro w' hk; have hr := (HR.out.keep hk HNE.out).cell 0; simp only [List.getElem?_cons_succ, List.getElem?_cons_zero] at hr; go_simp; try rfl
      · simp only [Act.put, List.setIfInBounds_toArray, List.set_cons_succ, List.set_cons_zero]; try rfl
      refine flowe_take 5 (v := ?_) (a' := ?_) hps rfl (by kernel_rfl) rfl ?_ ?_ ?_
      rotate_left 2
      · intro w' hk; go_simp; try rfl
      · simp only [Act.put, List.setIfInBounds_toArray, List.set_cons_succ, List.set_cons_zero]; try rfl
      refine flowe_take 6 (v := ?_) (a' := ?_) hps rfl (by kernel_rfl) rfl ?_ ?_ ?_
      rotate_left 2
      · intro w' hk; have hr := (HR.out.keep hk HNE.out).cell 1; simp only [List.getElem?_cons_succ, List.getElem?_cons_zero] at hr; go_simp; try rfl
      · simp only [Act.put, List.setIfInBounds_toArray, List.set_cons_succ, List.set_cons_zero]; try rfl
      refine flowe_take 7 (v := ?_) (a' := ?_) hps rfl (by kernel_rfl) rfl ?_ ?_ ?_
      rotate_left 2
      · intro w' hk; go_simp; try rfl
      · simp only [Act.put, List.setIfInBounds_toArray, List.set_cons_succ, List.set_cons_zero]; try rfl
      refine flowe_take 8 (v := ?_) (a' := ?_) hps rfl (by kernel_rfl) rfl ?_ ?_ ?_
      rotate_left 2
      · intro w' hk; go_simp; try rfl
      · simp only [Act.put, List.setIfInBounds_toArray, List.set_cons_succ, List.set_cons_zero]; try rfl
      refine flowe_take 9 (v := ?_) (a' := ?_) hps rfl (by kernel_rfl) rfl ?_ ?_ ?_
      rotate_left 2
      · intro w' hk; go_simp; try rfl
      · simp only [Act.put, List.setIfInBounds_toArray, List.set_cons_succ, List.set_cons_zero]; try rfl
      refine flowe_take 11 (v := ?_) (a' := ?_) hps rfl (by kernel_rfl) rfl ?_ ?_ ?_
      rotate_left 2
      · intro w' hk; go_simp; try rfl
      · simp only [Act.put, List.setIfInBounds_toArray, List.set_cons_succ, List.set_cons_zero]; try rfl
      refine flowe_one 2 hps rfl (by kernel_rfl) rfl (wp_next (fun K hK => ?_))
      go_simp
      have kc := arena_Base _ p { A with b := layAt A.b O X } v' HV.out
      with_reducible refine kc.mono ?_
      clear kc
      rintro e w' ⟨rfl, rfl⟩
      refine hK _ _ (flow_step kk ?_ ?_)
      · first | exact kp | exact Keep.refl _ _ | exact (Keep.refl _ _).alloc _
      clear kk hK; try clear kp
      intro kk
      refine flowe_take 10 (v := ?_) (a' := ?_) hps rfl (by kernel_rfl) rfl ?_ ?_ ?_
      rotate_left 2
      · intro w' hk; go_simp; try rfl
      · simp only [Act.put, List.setIfInBounds_toArray, List.set_cons_succ, List.set_cons_zero]; try rfl
      refine flowe_one 12 hps rfl (by kernel_rfl) rfl (wp_next (fun K hK => ?_))
      go_simp
      have kc := arena_SetWord_ok _ p { A with b := layAt A.b O X } v' HV.out ((A.base : Int) + (o + s - 8)) (O + S - 8) (by have := HOS.out; show _ = (A.base : Int) + _; omega) (X : Int) X rfl (by omega) (by have := HOS.out; show _ ≤ (layAt A.b O X).length; rw [HLL.out]; omega)
      with_reducible refine kc.mono ?_
      clear kc
      rintro e w3 ⟨rfl, hv3, k3⟩
      have h3 := HTO.out _ _ v' hv3 (k3.mono fun _ _ h => .inr h) (.inl rfl)
      rw [List.set_cons_succ, List.set_set] at h3
      have H3 := Lib.hid h3
      have kp := k3
      clear hv3 k3 h3
      refine hK _ _ (flow_step kk ?_ ?_)
      · first | exact kp | exact Keep.refl _ _ | exact (Keep.refl _ _).alloc _
      clear kk hK; try clear kp
      intro kk
      refine flowe_take 13 (v := ?_) (a' := ?_) hps rfl (by kernel_rfl) rfl ?_ ?_ ?_
      rotate_left 2
      · intro w' hk; go_simp; try rfl
      · simp only [Act.put, List.setIfInBounds_toArray, List.set_cons_succ, List.set_cons_zero]; try rfl
      refine flowe_done hps (by kernel_rfl) ?_
      clear kk HR HV HTO u0 u1 u2 u3 HNE
      go_wp2
      go_ret
      exact ⟨rfl, H3.out.tail⟩
end
end Go.Proofs.Ytenbpbnffnodhaa

/- Contracts of the library (bits.Len ..), laid by the kit's tool in this dump's own numbers. -/
namespace Go.Proofs
open Go.Shelf
def Try.lays125_ren : Go.Shelf.Ren := ⟨fun | 125 => 228 | 128 => 237 | 129 => 238 | n => n, fun | 46 => 235 | 3 => 3 | 51 => 110 | 53 => 49 | 4 => 4 | 5 => 5 | 9 => 9 | n => n, fun | n => n⟩
theorem Try.lays125 : Go.Proofs.Lays.n125 Try.prog Try.lays125_ren := {
  mixed := by kernel_rfl
  f125 := Try.func228.trans (congrArg some (by kernel_rfl))
  f128 := Try.func237.trans (congrArg some (by kernel_rfl))
  f129 := Try.func238.trans (congrArg some (by kernel_rfl))
  t3 := Try.underlying3
  a3 := Try.isAgg3
  z3 := Try.sizeOf3
  v3 := Try.zeroValue3
  t4 := Try.underlying4
  a4 := Try.isAgg4
  z4 := Try.sizeOf4
  v4 := Try.zeroValue4
  t5 := Try.underlying5
  a5 := Try.isAgg5
  z5 := Try.sizeOf5
  v5 := Try.zeroValue5
  t9 := Try.underlying9
  a9 := Try.isAgg9
  z9 := Try.sizeOf9
  v9 := Try.zeroValue9
  t46 := Try.underlying235
  a46 := Try.isAgg235
  z46 := Try.sizeOf235
  v46 := Try.zeroValue235
  t51 := Try.underlying110
  a51 := Try.isAgg110
  z51 := Try.sizeOf110
  v51 := Try.zeroValue110
  t53 := Try.underlying49
  a53 := Try.isAgg49
  z53 := Try.sizeOf49
  v53 := Try.zeroValue49 }
theorem Try.bits_Len (x : Int) (w : World) (h0 : 0 ≤ x) (h1 : x ≤ 18446744073709551615) :
    Calls Try.prog 228 #[.int .u64 x] w fun e w' => e = .returned (.int .i64 (Lib.bitLen x.toNat)) ∧ w' = w := Any.bits_Len Try.lays125 x w h0 h1
end Go.Proofs

/- Classes of sizes: the program's and the reference's. -/
namespace Go.Proofs.Ytenbpbnffnodhaa
open Go Go.RowKit Go.Own
set_option linter.unusedVariables false
theorem bitLen_of {x k : Nat} (h1 : 2 ^ k ≤ x) (h2 : x < 2 ^ (k + 1)) (hk : k < 64) : Lib.bitLen x = k + 1 := by
  unfold Lib.bitLen
  have aux : ∀ (f k x : Nat), 2 ^ k ≤ x → x < 2 ^ (k + 1) → k < f → Lib.bitLenAux f x = k + 1 := by
    intro f
    induction f with
    | zero => intro k x _ _ h; omega
    | succ f ih =>
      intro k x h1 h2 hk
      have hp : 0 < 2 ^ k := Nat.pow_pos (by decide)
      unfold Lib.bitLenAux
      rw [if_neg (by omega)]
      cases k with
      | zero =>
        have : x = 1 := by simp at h1 h2; omega
        subst this
        cases f <;> simp [Lib.bitLenAux]
      | succ k =>
        rw [Nat.pow_succ] at h1 h2
        rw [ih k (x / 2) (by omega) (by omega) (by omega)]; omega
  exact aux 64 k x h1 h2 hk
theorem len_cls {s : Int} (h : isSize s = true) (h2 : 256 < s) : cls s = 6 + (Lib.bitLen s.toNat : Nat) := by
  refine cls_len h h2 _ ?_
  have hs := (isSize_iff s).1 h
  have key : ∀ k : Nat, k < 64 → (2 : Int) ^ k ≤ s → s < (2 : Int) ^ (k + 1) → ((Lib.bitLen s.toNat : Nat) : Int) = k + 1 := by
    intro k hk a b
    have e1 : ((2 : Int) ^ k) = ((2 ^ k : Nat) : Int) := by simp
    have e2 : ((2 : Int) ^ (k + 1)) = ((2 ^ (k + 1) : Nat) : Int) := by simp
    rw [e1] at a; rw [e2] at b
    rw [bitLen_of (k := k) (by omega) (by omega) hk]; simp
  by_cases a1 : s < 512
  · rw [if_pos a1, key 8 (by decide) (by omega) (by omega)]; rfl
  by_cases a2 : s < 1024
  · rw [if_neg a1, if_pos a2, key 9 (by decide) (by omega) (by omega)]; rfl
  by_cases a3 : s < 2048
  · rw [if_neg a1, if_neg a2, if_pos a3, key 10 (by decide) (by omega) (by omega)]; rfl
  by_cases a4 : s < 4096
  · rw [if_neg a1, if_neg a2, if_neg a3, if_pos a4, key 11 (by decide) (by omega) (by omega)]; rfl
  by_cases a5 : s < 8192
  · rw [if_neg a1, if_neg a2, if_neg a3, if_neg a4, if_pos a5, key 12 (by decide) (by omega) (by omega)]; rfl
  by_cases a6 : s < 16384
  · rw [if_neg a1, if_neg a2, if_neg a3, if_neg a4, if_neg a5, if_pos a6, key 13 (by decide) (by omega) (by omega)]; rfl
  · rw [if_neg a1, if_neg a2, if_neg a3, if_neg a4, if_neg a5, if_neg a6, key 14 (by decide) (by omega) (by omega)]; rfl
theorem class_Class (w : World) (s : Int) (h0 : -9223372036854775808 ≤ s) (h1 : s ≤ 9223372036854775807) :
    Calls Try.prog 192 #[.int .i64 s] w fun e w' => e = .returned (.int .i64 (cls s)) ∧ w = w' := by
  by_cases h : isSize s = true
  · obtain ⟨s1, s2, s3⟩ := (isSize_iff s).1 h
    have hne : (s % 16 != 0) = false := by rw [bne_eq_false_iff_eq]; exact s3
    by_cases hs : s ≤ 256
    · have ec : cls s = s / 16 - 2 := by unfold cls; rw [h]; simp only [if_true]; rw [if_pos hs]
      have EC := Lib.hid ec
      clear ec h s3
      go_enter Try.func192, Try.ntmps192
      go_wp2
      go_ret
      exact ⟨rI EC.out.symm, rfl⟩
    · have ec := len_cls h (by omega)
      have k := Try.bits_Len s w (by omega) (by omega)
      have hb : (Lib.bitLen s.toNat : Nat) ≤ 64 := by
        have := ec; unfold cls at this; rw [h] at this; simp only [if_true] at this
        repeat (split at this <;> try omega)
      have EC := Lib.hid ec; have K := Lib.hid k
      clear ec k h s3
      go_enter Try.func192, Try.ntmps192
      go_wp2_with fail
      refine K.out.mono ?_
      rintro e w' ⟨rfl, rfl⟩
      go_wp2
      go_ret
      exact ⟨rI EC.out.symm, rfl⟩
  · have ec : cls s = -1 := by unfold cls; rw [if_neg h]
    have hn : s < 32 ∨ 16384 < s ∨ (32 ≤ s ∧ s ≤ 16384 ∧ (s % 16 != 0) = true) := by
      have h4 : ¬ (32 ≤ s ∧ s ≤ 16384 ∧ s % 16 = 0) := fun hh => h (isSize_yes hh)
      rw [bne_iff_ne]; omega
    have EC := Lib.hid ec
    clear ec h
    rcases hn with hn | hn | ⟨a1, a2, a3⟩
    all_goals
      go_enter Try.func192, Try.ntmps192
      go_wp2
      go_ret
      exact ⟨rI EC.out.symm, rfl⟩

/-- What the reference's loop holds. -/
def ClsAt (s c t : Int) : Prop :=
  (c = 15 ∧ t = 512 ∧ 256 < s) ∨ (c = 16 ∧ t = 1024 ∧ 512 ≤ s) ∨ (c = 17 ∧ t = 2048 ∧ 1024 ≤ s) ∨ (c = 18 ∧ t = 4096 ∧ 2048 ≤ s) ∨ (c = 19 ∧ t = 8192 ∧ 4096 ≤ s) ∨ (c = 20 ∧ t = 16384 ∧ 8192 ≤ s) ∨ (c = 21 ∧ t = 32768 ∧ 16384 ≤ s)
theorem ClsAt.next {s c t : Int} (h : ClsAt s c t) (ht : t ≤ s) (hs : s ≤ 16384) : ClsAt s (c + 1) (2 * t) ∧ 512 ≤ t ∧ t ≤ 16384 ∧ 15 ≤ c ∧ c ≤ 20 := by
  rcases h with ⟨rfl, rfl, h⟩ | ⟨rfl, rfl, h⟩ | ⟨rfl, rfl, h⟩ | ⟨rfl, rfl, h⟩ | ⟨rfl, rfl, h⟩ | ⟨rfl, rfl, h⟩ | ⟨rfl, rfl, h⟩
  · exact ⟨.inr (.inl ⟨rfl, rfl, ht⟩), by omega⟩
  · exact ⟨.inr (.inr (.inl ⟨rfl, rfl, ht⟩)), by omega⟩
  · exact ⟨.inr (.inr (.inr (.inl ⟨rfl, rfl, ht⟩))), by omega⟩
  · exact ⟨.inr (.inr (.inr (.inr (.inl ⟨rfl, rfl, ht⟩)))), by omega⟩
  · exact ⟨.inr (.inr (.inr (.inr (.inr (.inl ⟨rfl, rfl, ht⟩))))), by omega⟩
  · exact ⟨.inr (.inr (.inr (.inr (.inr (.inr ⟨rfl, rfl, ht⟩))))), by omega⟩
  · omega
theorem ClsAt.done {s c t : Int} (h : ClsAt s c t) (ht : s < t) (h0 : isSize s = true) : cls s = c := by
  unfold cls
  rw [h0]
  simp only [if_true]
  have := (isSize_iff s).1 h0
  rcases h with ⟨rfl, rfl, h⟩ | ⟨rfl, rfl, h⟩ | ⟨rfl, rfl, h⟩ | ⟨rfl, rfl, h⟩ | ⟨rfl, rfl, h⟩ | ⟨rfl, rfl, h⟩ | ⟨rfl, rfl, h⟩
  all_goals (rw [if_neg (by omega)]; repeat (first | rw [if_pos (by omega)] | rw [if_neg (by omega)]))
set_option maxHeartbeats 1000000 in
theorem ref_Class (w : World) (s : Int) (h0 : -9223372036854775808 ≤ s) (h1 : s ≤ 9223372036854775807) :
    Calls Try.prog 87 #[.int .i64 s] w fun e w' => e = .returned (.int .i64 (cls s)) ∧ w = w' := by
  have k := ref_IsSize w s
  cases h : isSize s with
  | true =>
    rw [h] at k
    obtain ⟨s1, s2, s3⟩ := (isSize_iff s).1 h
    by_cases hs : s ≤ 256
    · have ec : cls s = s / 16 - 2 := by unfold cls; rw [h]; simp only [if_true]; rw [if_pos hs]
      have EC := Lib.hid ec; have K := Lib.hid k
      clear ec h s3 k
      go_enter Try.func87, Try.ntmps87
      go_wp2_with fail
      with_reducible refine K.out.mono ?_
      rintro e w' ⟨rfl, rfl⟩
      go_wp2
      go_ret
      exact ⟨rI EC.out.symm, rfl⟩
    · have HS := Lib.hid h; have K := Lib.hid k
      clear h s3 k
      go_enter Try.func87, Try.ntmps87
      go_wp2_with fail
      with_reducible refine K.out.mono ?_
      rintro e w' ⟨rfl, rfl⟩
      go_wp2
      go_loop [4, 5] (fun v x => ∃ c t : Int, v = .int .i64 c ∧ x = .int .i64 t ∧ ClsAt s c t) (fun v _ => (21 - intOf v).toNat)
      case atStart => exact ⟨15, 512, rfl, rfl, .inl ⟨rfl, rfl, by omega⟩⟩
      case round =>
        obtain ⟨c, t, rfl, rfl, hc⟩ := hrel
        by_cases hlt : t ≤ s
        · obtain ⟨n1, n2, n3, n4, n5⟩ := hc.next hlt s2
          clear hc
          go_wp2
          exact ⟨⟨c + 1, 2 * t, rfl, rfl, n1⟩, by simp [intOf]; omega⟩
        · have e := hc.done (by omega) HS.out
          have E := Lib.hid e
          clear e hc
          go_wp2
          go_ret
          exact ⟨rI E.out.symm, rfl⟩
  | false =>
    rw [h] at k
    have ec : cls s = -1 := by unfold cls; rw [h]; rfl
    have EC := Lib.hid ec; have K := Lib.hid k
    clear ec h k
    go_enter Try.func87, Try.ntmps87
    go_wp2_with fail
    with_reducible refine K.out.mono ?_
    rintro e w' ⟨rfl, rfl⟩
    go_wp2
    go_ret
    exact ⟨rI EC.out.symm, rfl⟩
end Go.Proofs.Ytenbpbnffnodhaa

/- Blocks that tile an arena's bytes, and the lists of its free ones: what the list operations do. No program. -/
namespace Go.Own
/-- Only words of T have turned. -/
structure Touch (T : Nat → Prop) (b b' : List UInt8) : Prop where
  len : b'.length = b.length
  same : ∀ o n, (∀ t, T t → o + n ≤ t ∨ t + 8 ≤ o) → (b'.drop o).take n = (b.drop o).take n
theorem Touch.refl (T : Nat → Prop) (b : List UInt8) : Touch T b b := ⟨rfl, fun _ _ _ => rfl⟩
theorem Touch.trans {T : Nat → Prop} {a b c : List UInt8} (h : Touch T a b) (k : Touch T b c) : Touch T a c :=
  ⟨k.len.trans h.len, fun o n ht => (k.same o n ht).trans (h.same o n ht)⟩
theorem Touch.mono {T T' : Nat → Prop} {a b : List UInt8} (h : Touch T a b) (ht : ∀ t, T t → T' t) : Touch T' a b :=
  ⟨h.len, fun o n hn => h.same o n fun t h => hn t (ht t h)⟩
theorem Touch.lay {T : Nat → Prop} (b : List UInt8) (o v : Nat) (h : o + 8 ≤ b.length) (ht : T o) : Touch T b (layAt b o v) :=
  ⟨layAt_length b o v h, fun p n hn => by
    unfold layAt
    exact lay_far (by rw [low_length]; exact h) p n (by rw [low_length]; exact hn o ht)⟩
theorem Touch.num {T : Nat → Prop} {b b' : List UInt8} (h : Touch T b b') (o : Nat) (ho : ∀ t, T t → o + 8 ≤ t ∨ t + 8 ≤ o) : numAt b' o = numAt b o := by
  unfold numAt; rw [h.len, h.same o 8 ho]
/-- Blocks, one behind the other, up to the end. -/
def Tile (b : List UInt8) : Nat → List Blk → Prop
  | o, [] => o = b.length
  | o, x :: r => blkAt b o = some x ∧ Tile b (o + x.size) r
theorem walkFrom_tile (b : List UInt8) : ∀ (bs : List Blk) (f o : Nat), o ≤ b.length → b.length ≤ o + f → (walkFrom b f o = some bs ↔ Tile b o bs)
  | bs, 0, o, h1, h2 => by
    obtain rfl : o = b.length := by omega
    unfold walkFrom
    rw [if_neg (by omega)]
    constructor
    · intro h
      simp only [Option.some.injEq] at h
      subst h; rfl
    · intro h
      cases bs with
      | nil => rfl
      | cons x r =>
        have := blkAt_some h.1
        omega
  | bs, f + 1, o, h1, h2 => by
    unfold walkFrom
    split
    · rename_i hlt
      cases hg : blkAt b o with
      | none =>
        constructor
        · intro h; cases h
        · intro h
          cases bs with
          | nil => have : o = b.length := h; omega
          | cons x r => rw [h.1] at hg; cases hg
      | some x =>
        have hx := blkAt_some hg
        cases bs with
        | nil =>
          constructor
          · intro h
            simp only [Option.map_eq_some_iff] at h
            obtain ⟨_, _, h⟩ := h
            cases h
          · intro h; have : o = b.length := h; omega
        | cons y r =>
          have ih := walkFrom_tile b r f (o + x.size) (by omega) (by omega)
          constructor
          · intro h
            simp only [Option.map_eq_some_iff, List.cons.injEq] at h
            obtain ⟨l, h1, rfl, rfl⟩ := h
            exact ⟨hg, ih.1 h1⟩
          · intro h
            have : x = y := by have := hg.symm.trans h.1; simpa using this
            subst this
            simp only [Option.map_eq_some_iff, List.cons.injEq]
            exact ⟨r, ih.2 h.2, trivial, rfl⟩
    · obtain rfl : o = b.length := by omega
      constructor
      · intro h
        simp only [Option.some.injEq] at h
        subst h; rfl
      · intro h
        cases bs with
        | nil => rfl
        | cons x r =>
          have := blkAt_some h.1
          omega
theorem walkB_tile (b : List UInt8) (bs : List Blk) : walkB b = some bs ↔ 184 ≤ b.length ∧ Tile b 184 bs := by
  unfold walkB
  split
  · constructor
    · intro h; cases h
    · intro h; omega
  · rw [walkFrom_tile b bs b.length 184 (by omega) (by omega)]
    exact ⟨fun h => ⟨by omega, h⟩, fun h => h.2⟩
theorem Tile.mem {b : List UInt8} {x : Blk} : ∀ {bs : List Blk} {o : Nat}, Tile b o bs → x ∈ bs → o ≤ x.off ∧ blkAt b x.off = some x ∧ x.off + x.size ≤ b.length
  | [], _, _, h => by cases h
  | y :: r, o, ht, h => by
    have hy := blkAt_some ht.1
    rcases List.mem_cons.1 h with rfl | h
    · rw [hy.1]; exact ⟨Nat.le_refl _, ht.1, by omega⟩
    · have := ht.2.mem h; exact ⟨by omega, this.2⟩
theorem Tile.apart {b : List UInt8} {x y : Blk} : ∀ {bs : List Blk} {o : Nat}, Tile b o bs → x ∈ bs → y ∈ bs → x = y ∨ x.off + x.size ≤ y.off ∨ y.off + y.size ≤ x.off
  | [], _, _, h, _ => by cases h
  | z :: r, o, ht, hx, hy => by
    have hz := blkAt_some ht.1
    rcases List.mem_cons.1 hx with e1 | h1 <;> rcases List.mem_cons.1 hy with e2 | h2
    · exact .inl (e1.trans e2.symm)
    · subst e1; have := ht.2.mem h2; exact .inr (.inl (by omega))
    · subst e2; have := ht.2.mem h1; exact .inr (.inr (by omega))
    · exact ht.2.apart h1 h2
/-- Blocks that are there, no two with a byte in common. -/
structure Good (b : List UInt8) (bs : List Blk) : Prop where
  mem : ∀ {x : Blk}, x ∈ bs → 184 ≤ x.off ∧ blkAt b x.off = some x ∧ x.off + x.size ≤ b.length
  apart : ∀ {x y : Blk}, x ∈ bs → y ∈ bs → x = y ∨ x.off + x.size ≤ y.off ∨ y.off + y.size ≤ x.off
theorem Tile.good {b : List UInt8} {bs : List Blk} (h : Tile b 184 bs) : Good b bs := ⟨fun hx => h.mem hx, fun hx hy => h.apart hx hy⟩
/-- Words of the header, and the two link words of free blocks. -/
def LinkW (bs : List Blk) (t : Nat) : Prop := t + 8 ≤ 184 ∨ ∃ x ∈ bs, x.used = false ∧ (t = x.off + 8 ∨ t = x.off + 16)
theorem blkAt_touch {T : Nat → Prop} {b b' : List UInt8} (h : Touch T b b') {o : Nat} {x : Blk} (hx : blkAt b o = some x) (ht : ∀ t, T t → (o + 8 ≤ t ∨ t + 8 ≤ o) ∧ (o + x.size ≤ t ∨ t + 8 ≤ o + x.size - 8)) : blkAt b' o = some x := by
  have hs := blkAt_some hx
  have e1 := h.num o fun t h => (ht t h).1
  have e2 := h.num (o + x.size - 8) fun t h => by have := (ht t h).2; omega
  have hsz : x.size = (tagS (numAt b o)).toNat := by omega
  rw [hsz] at e2
  unfold blkAt at hx ⊢
  rw [e1, h.len, e2]
  exact hx
theorem LinkW.off {b : List UInt8} {bs : List Blk} (h : Good b bs) {t : Nat} (ht : LinkW bs t) {x : Blk} (hx : x ∈ bs) : (x.off + 8 ≤ t ∨ t + 8 ≤ x.off) ∧ (x.off + x.size ≤ t ∨ t + 8 ≤ x.off + x.size - 8) := by
  have h1 := h.mem hx
  have h2 := blkAt_some h1.2.1
  rcases ht with ht | ⟨y, hy, _, ht⟩
  · omega
  · have h3 := h.mem hy
    have h4 := blkAt_some h3.2.1
    rcases h.apart hx hy with rfl | h5 | h5 <;> rcases ht with rfl | rfl <;> omega
theorem Tile.touch {b b' : List UInt8} {bs : List Blk} (h : Tile b 184 bs) (hl : 184 ≤ b.length) (ht : Touch (LinkW bs) b b') : Tile b' 184 bs := by
  have key : ∀ (r : List Blk) (o : Nat), Tile b o r → (∀ x ∈ r, x ∈ bs) → Tile b' o r := by
    intro r
    induction r with
    | nil => intro o h _; exact h.trans ht.len.symm
    | cons x r ih =>
      intro o h1 h2
      have hx := (blkAt_some h1.1).1
      refine ⟨blkAt_touch ht h1.1 fun t h3 => ?_, ih _ h1.2 fun y hy => h2 y (List.mem_cons_of_mem _ hy)⟩
      have := h3.off h.good (h2 x (List.mem_cons_self ..))
      rw [hx] at this; exact this
  exact key bs 184 h fun x hx => hx
theorem Good.touch {b b' : List UInt8} {bs : List Blk} (h : Good b bs) (ht : Touch (LinkW bs) b b') : Good b' bs :=
  ⟨fun {x} hx => by
    have h1 := h.mem hx
    exact ⟨h1.1, blkAt_touch ht h1.2.1 fun t h3 => h3.off h hx, by rw [ht.len]; exact h1.2.2⟩, fun hx hy => h.apart hx hy⟩
/-- From one's predecessor and one's place through a list to the next place. -/
def Seg (b : List UInt8) : Nat → Nat → List Nat → Nat → Nat → Prop
  | last, at_, [], last', at' => last' = last ∧ at' = at_
  | last, at_, o :: r, last', at' => at_ = o ∧ numAt b (o + 16) = last ∧ Seg b o (numAt b (o + 8)) r last' at'
theorem Seg.append {b : List UInt8} : ∀ {l1 l2 : List Nat} {p q p' q' : Nat}, Seg b p q (l1 ++ l2) p' q' ↔ ∃ m k, Seg b p q l1 m k ∧ Seg b m k l2 p' q'
  | [], l2, p, q, p', q' => by
    constructor
    · intro h; exact ⟨p, q, ⟨rfl, rfl⟩, h⟩
    · rintro ⟨m, k, ⟨rfl, rfl⟩, h⟩; exact h
  | o :: l1, l2, p, q, p', q' => by
    simp only [List.cons_append, Seg, Seg.append (l1 := l1)]
    constructor
    · rintro ⟨h1, h2, m, k, h3, h4⟩; exact ⟨m, k, ⟨h1, h2, h3⟩, h4⟩
    · rintro ⟨m, k, ⟨h1, h2, h3⟩, h4⟩; exact ⟨h1, h2, m, k, h3, h4⟩
theorem Seg.frame {b b' : List UInt8} : ∀ {l : List Nat} {p q p' q' : Nat}, (∀ o ∈ l, numAt b' (o + 8) = numAt b (o + 8) ∧ numAt b' (o + 16) = numAt b (o + 16)) → Seg b p q l p' q' → Seg b' p q l p' q'
  | [], _, _, _, _, _, h => h
  | o :: l, p, q, p', q', hf, h => by
    have := hf o (List.mem_cons_self ..)
    refine ⟨h.1, this.2.trans h.2.1, ?_⟩
    rw [this.1]
    exact h.2.2.frame fun o ho => hf o (List.mem_cons_of_mem _ ho)
theorem Seg.last {b : List UInt8} : ∀ {l : List Nat} {p q p' q' : Nat}, Seg b p q l p' q' → p' = l.getLastD p
  | [], _, _, _, _, h => h.1
  | o :: l, p, q, p', q', h => by
    rw [h.2.2.last]
    cases l <;> rfl
theorem Seg.head {b : List UInt8} {l : List Nat} {p q p' q' : Nat} (h : Seg b p q l p' q') : q = l.headD q' := by
  cases l with
  | nil => exact h.2.symm
  | cons o l => exact h.1
end Go.Own

/- One bit of a number, set or cleared. No program. -/
namespace Go.Own
theorem bitAt_test (w c : Nat) : bitAt w c = w.testBit c := by unfold bitAt; rw [Nat.testBit_eq_decide_div_mod_eq]
theorem bitAt_set (w c d : Nat) (v : Bool) : bitAt (setBit w c v) d = if d = c then v else bitAt w d := by
  unfold setBit
  split
  · rename_i h; split
    · rename_i e; subst e; exact h
    · rfl
  · rename_i h
    rw [bitAt_test] at h
    rw [bitAt_test, bitAt_test, Nat.testBit_xor, Nat.testBit_two_pow]
    split
    · rename_i e; subst e
      cases hb : w.testBit d <;> cases v <;> simp_all
    · rename_i e
      have : decide (c = d) = false := decide_eq_false fun h => e h.symm
      rw [this]; simp
theorem setBit_lt {w c : Nat} {v : Bool} (h : w < 4194304) (hc : c < 22) : setBit w c v < 4194304 := by
  unfold setBit
  split
  · exact h
  · exact Nat.xor_lt_two_pow (n := 22) h (Nat.pow_lt_pow_right (by decide) hc)
theorem setBit_lt64 {w c : Nat} {v : Bool} (h : w < 18446744073709551616) (hc : c < 22) : setBit w c v < 18446744073709551616 := by
  unfold setBit
  split
  · exact h
  · exact Nat.xor_lt_two_pow (n := 64) h (Nat.pow_lt_pow_right (by decide) (by omega))
theorem or_bit (w c : Nat) : w ||| 2 ^ c = setBit w c true := by
  apply Nat.eq_of_testBit_eq
  intro d
  rw [← bitAt_test (setBit w c true), bitAt_set, bitAt_test, Nat.testBit_or, Nat.testBit_two_pow]
  split
  · rename_i e; subst e; simp
  · rename_i e
    have : decide (c = d) = false := decide_eq_false fun h => e h.symm
    rw [this]; simp
theorem andNot_bit (w c : Nat) (h : w < 18446744073709551616) (hc : c < 22) : w &&& (18446744073709551615 - 2 ^ c) = setBit w c false := by
  apply Nat.eq_of_testBit_eq
  intro d
  have e : 18446744073709551615 - 2 ^ c = 2 ^ 64 - (2 ^ c + 1) := by
    have : (2 : Nat) ^ 64 = 18446744073709551616 := by decide
    omega
  rw [← bitAt_test (setBit w c false), bitAt_set, bitAt_test, Nat.testBit_and, e, Nat.testBit_two_pow_sub_succ (Nat.pow_lt_pow_right (by decide) (by omega)), Nat.testBit_two_pow]
  by_cases hd : d < 64
  · split
    · rename_i e; subst e; simp
    · rename_i e
      have : decide (c = d) = false := decide_eq_false fun h => e h.symm
      rw [this]; simp [hd]
  · have : w.testBit d = false := Nat.testBit_lt_two_pow (Nat.lt_of_lt_of_le h (by
      have : (18446744073709551616 : Nat) = 2 ^ 64 := by decide
      rw [this]; exact Nat.pow_le_pow_right (by decide) (by omega)))
    rw [this]; simp
end Go.Own
