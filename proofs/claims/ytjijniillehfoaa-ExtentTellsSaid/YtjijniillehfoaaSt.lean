/- Things in memory, side by side, each with blocks of its own: what one step does to one of them leaves the others. -/
import Derived.Test.YtjijniillehfoaaArBase
namespace Go.Own
open Go Go.RowKit
/-- A kind of thing in memory: of a world and of its blocks. 'm': it may be turned, so its blocks are none of those that were there at first. -/
structure Ob where
  m : Bool
  p : World → (Nat → Prop) → Prop
  lt : ∀ {w : World} {F : Nat → Prop}, p w F → ∀ k, F k → k < w.heap.size
  kept : ∀ {w w' : World} {F G : Nat → Prop}, p w F → Keep G w w' → (∀ k, F k → ¬ G k) → p w' F
/-- All of these. U true: blocks of things that may be turned, ahead of these; U false: of things that are only read. What may be turned has no block in common with anything else. -/
def SL (B : Nat) (w : World) : List Ob → (Bool → Nat → Prop) → Prop
  | [], _ => True
  | P :: r, U => ∃ F, P.p w F ∧ (∀ k, F k → ¬ U true k ∧ (P.m = true → ¬ U false k ∧ B ≤ k)) ∧ SL B w r (fun m k => U m k ∨ (m = P.m ∧ F k))
theorem SL.move {B : Nat} {w w' : World} {G : Nat → Prop} (k : Keep G w w') : ∀ {l : List Ob} {U U' : Bool → Nat → Prop}, SL B w l U → (∀ x, G x → U true x) → (∀ m x, U' m x → U m x ∨ U true x ∨ w.heap.size ≤ x) → SL B w' l U'
  | [], _, _, _, _, _ => trivial
  | P :: r, U, U', h, hG, hU => by
    obtain ⟨F, h1, h2, h4⟩ := h
    refine ⟨F, P.kept h1 k fun x hx hg => (h2 x hx).1 (hG x hg), fun x hx => ⟨fun hu => ?_, fun hm => ⟨fun hu => ?_, ((h2 x hx).2 hm).2⟩⟩, SL.move k h4 (fun x hx => .inl (hG x hx)) (fun m x hx => ?_)⟩
    · rcases hU true x hu with h | h | h
      · exact (h2 x hx).1 h
      · exact (h2 x hx).1 h
      · have := P.lt h1 x hx; omega
    · rcases hU false x hu with h | h | h
      · exact ((h2 x hx).2 hm).1 h
      · exact (h2 x hx).1 h
      · have := P.lt h1 x hx; omega
    · rcases hx with hx | hx
      · rcases hU m x hx with h | h | h
        · exact .inl (.inl h)
        · exact .inr (.inl (.inl h))
        · exact .inr (.inr h)
      · exact .inl (.inr hx)
/-- One of them, and what may become of it. -/
theorem SL.at {B : Nat} {w : World} (hB : B ≤ w.heap.size) : ∀ {l : List Ob} {U : Bool → Nat → Prop} {i : Nat} {P : Ob}, SL B w l U → (∀ m x, U m x → x < w.heap.size) → l[i]? = some P →
    ∃ F, P.p w F ∧ (∀ x, F x → ¬ U true x ∧ (P.m = true → ¬ U false x ∧ B ≤ x)) ∧ ∀ (w' : World) (F' : Nat → Prop) (P' : Ob), (P'.m = true → P.m = true) → Keep (fun x => P.m = true ∧ F x) w w' → P'.p w' F' → (∀ x, F' x → F x ∨ w.heap.size ≤ x) → SL B w' (l.set i P') U
  | [], _, _, _, _, _, hi => by simp at hi
  | P0 :: r, U, 0, P, h, hU, hi => by
    obtain ⟨F, h1, h2, h4⟩ := h
    simp only [List.getElem?_cons_zero, Option.some.injEq] at hi
    subst hi
    refine ⟨F, h1, h2, fun w' F' P' hm k hp hF => ⟨F', hp, fun x hx => ⟨fun hu => ?_, fun hm' => ⟨fun hu => ?_, ?_⟩⟩, SL.move k h4 (fun x hx => .inr ⟨hx.1.symm, hx.2⟩) (fun m x hx => ?_)⟩⟩
    · rcases hF x hx with h | h
      · exact (h2 x h).1 hu
      · have := hU true x hu; omega
    · rcases hF x hx with h | h
      · exact ((h2 x h).2 (hm hm')).1 hu
      · have := hU false x hu; omega
    · rcases hF x hx with h | h
      · exact ((h2 x h).2 (hm hm')).2
      · omega
    · rcases hx with hx | ⟨rfl, hx⟩
      · exact .inl (.inl hx)
      · rcases hF x hx with h | h
        · cases hpm : P0.m with
          | true => exact .inr (.inl (.inr ⟨rfl, h⟩))
          | false =>
            cases hpm' : P'.m with
            | true => rw [hm hpm'] at hpm; cases hpm
            | false => exact .inl (.inr ⟨rfl, h⟩)
        · exact .inr (.inr h)
  | P0 :: r, U, i + 1, P, h, hU, hi => by
    obtain ⟨F0, h1, h2, h4⟩ := h
    rw [List.getElem?_cons_succ] at hi
    obtain ⟨F, a1, a2, a4⟩ := SL.at hB h4 (fun m x hx => hx.elim (hU m x) fun h => P0.lt h1 x h.2) hi
    refine ⟨F, a1, fun x hx => ⟨fun hu => (a2 x hx).1 (.inl hu), fun hm => ⟨fun hu => ((a2 x hx).2 hm).1 (.inl hu), ((a2 x hx).2 hm).2⟩⟩, fun w' F' P' hm k hp hF => ⟨F0, P0.kept h1 k fun x hx hf => ?_, h2, a4 w' F' P' hm k hp hF⟩⟩
    obtain ⟨hfm, hf⟩ := hf
    cases hpm : P0.m with
    | true => exact (a2 x hf).1 (.inr ⟨hpm.symm, hx⟩)
    | false => exact ((a2 x hf).2 hfm).1 (.inr ⟨hpm.symm, hx⟩)
theorem SL.mono {B : Nat} {w : World} : ∀ {l : List Ob} {U U' : Bool → Nat → Prop}, SL B w l U → (∀ m x, U' m x → U m x ∨ U true x) → SL B w l U'
  | [], _, _, _, _ => trivial
  | P :: r, U, U', h, hU => by
    obtain ⟨F, h1, h2, h4⟩ := h
    refine ⟨F, h1, fun x hx => ⟨fun hu => (h2 x hx).1 ((hU true x hu).elim id id), fun hm => ⟨fun hu => (hU false x hu).elim ((h2 x hx).2 hm).1 (h2 x hx).1, ((h2 x hx).2 hm).2⟩⟩, SL.mono h4 fun m x hx => ?_⟩
    rcases hx with hx | hx
    · exact (hU m x hx).imp .inl .inl
    · exact .inl (.inr hx)
/-- Fewer of them, in the same order. -/
theorem SL.sub {B : Nat} {w : World} {l l' : List Ob} (hs : l'.Sublist l) : ∀ {U : Bool → Nat → Prop}, SL B w l U → SL B w l' U := by
  induction hs with
  | slnil => intro U _; exact trivial
  | cons a _ ih =>
    intro U h
    obtain ⟨F, h1, h2, h4⟩ := h
    exact ih (SL.mono h4 fun m x hx => .inl (.inl hx))
  | cons_cons a _ ih =>
    intro U h
    obtain ⟨F, h1, h2, h4⟩ := h
    exact ⟨F, h1, h2, ih h4⟩
theorem SL.swap {B : Nat} {w : World} {P Q : Ob} {r : List Ob} {U : Bool → Nat → Prop} (h : SL B w (P :: Q :: r) U) : SL B w (Q :: P :: r) U := by
  obtain ⟨F, h1, h2, G, g1, g2, h4⟩ := h
  refine ⟨G, g1, fun x hx => ⟨fun hu => (g2 x hx).1 (.inl hu), fun hm => ⟨fun hu => ((g2 x hx).2 hm).1 (.inl hu), ((g2 x hx).2 hm).2⟩⟩, F, h1, fun x hx => ⟨fun hu => ?_, fun hm => ⟨fun hu => ?_, ((h2 x hx).2 hm).2⟩⟩, SL.mono h4 fun m x hx => .inl ?_⟩
  · rcases hu with hu | ⟨hq, hg⟩
    · exact (h2 x hx).1 hu
    · cases hpm : P.m with
      | true => exact (g2 x hg).1 (.inr ⟨hpm.symm, hx⟩)
      | false => exact ((g2 x hg).2 hq.symm).1 (.inr ⟨hpm.symm, hx⟩)
  · rcases hu with hu | ⟨hq, hg⟩
    · exact ((h2 x hx).2 hm).1 hu
    · exact (g2 x hg).1 (.inr ⟨hm.symm, hx⟩)
  · rcases hx with (h | h) | h
    · exact .inl (.inl h)
    · exact .inr h
    · exact .inl (.inr h)
theorem SL.perm {B : Nat} {w : World} {l l' : List Ob} (hs : l.Perm l') : ∀ {U : Bool → Nat → Prop}, SL B w l U → SL B w l' U := by
  induction hs with
  | nil => intro U _; exact trivial
  | cons a _ ih =>
    intro U h
    obtain ⟨F, h1, h2, h4⟩ := h
    exact ⟨F, h1, h2, ih h4⟩
  | swap a b l => intro U h; exact SL.swap h
  | trans _ _ ih1 ih2 => intro U h; exact ih2 (ih1 h)
/-- What is only read, and lies below B, is in nobody's way. -/
theorem SL.low {B : Nat} {w : World} : ∀ {l : List Ob} {U U' : Bool → Nat → Prop}, SL B w l U → (∀ m x, U' m x → U m x ∨ (m = false ∧ x < B)) → SL B w l U'
  | [], _, _, _, _ => trivial
  | P :: r, U, U', h, hU => by
    obtain ⟨F, h1, h2, h4⟩ := h
    refine ⟨F, h1, fun x hx => ⟨fun hu => ?_, fun hm => ⟨fun hu => ?_, ((h2 x hx).2 hm).2⟩⟩, SL.low h4 fun m x hx => ?_⟩
    · rcases hU true x hu with h | ⟨h, _⟩
      · exact (h2 x hx).1 h
      · cases h
    · rcases hU false x hu with h | ⟨_, h⟩
      · exact ((h2 x hx).2 hm).1 h
      · have := ((h2 x hx).2 hm).2; omega
    · rcases hx with hx | hx
      · exact (hU m x hx).imp .inl id
      · exact .inl (.inr hx)
/-- Two of them have no block in common, if one may be turned. -/
theorem SL.apart {B : Nat} {w : World} : ∀ {l : List Ob} {U : Bool → Nat → Prop} {j : Nat} {Q : Ob}, SL B w l U → l[j]? = some Q → ∃ G, Q.p w G ∧ ∀ k, G k → ¬ U true k ∧ (Q.m = true → ¬ U false k)
  | [], _, _, _, _, hj => by simp at hj
  | P0 :: r, U, 0, Q, h, hj => by
    obtain ⟨F, h1, h2, h4⟩ := h
    simp only [List.getElem?_cons_zero, Option.some.injEq] at hj
    subst hj
    exact ⟨F, h1, fun k hk => ⟨(h2 k hk).1, fun hm => ((h2 k hk).2 hm).1⟩⟩
  | P0 :: r, U, j + 1, Q, h, hj => by
    obtain ⟨F, h1, h2, h4⟩ := h
    rw [List.getElem?_cons_succ] at hj
    obtain ⟨G, g1, g2⟩ := SL.apart h4 hj
    exact ⟨G, g1, fun k hk => ⟨fun hu => (g2 k hk).1 (.inl hu), fun hm hu => (g2 k hk).2 hm (.inl hu)⟩⟩
theorem SL.two {B : Nat} {w : World} : ∀ {l : List Ob} {U : Bool → Nat → Prop} {i j : Nat} {P Q : Ob}, SL B w l U → l[i]? = some P → l[j]? = some Q → i < j → (P.m = true ∨ Q.m = true) → ∃ F G, P.p w F ∧ Q.p w G ∧ ∀ k, F k → ¬ G k
  | [], _, _, _, _, _, _, hi, _, _, _ => by simp at hi
  | P0 :: r, U, 0, 0, P, Q, h, hi, hj, hij, _ => by omega
  | P0 :: r, U, i + 1, 0, P, Q, h, hi, hj, hij, _ => by omega
  | P0 :: r, U, 0, j + 1, P, Q, h, hi, hj, hij, hm => by
    obtain ⟨F, h1, h2, h4⟩ := h
    simp only [List.getElem?_cons_zero, Option.some.injEq] at hi
    subst hi
    rw [List.getElem?_cons_succ] at hj
    obtain ⟨G, g1, g2⟩ := SL.apart h4 hj
    refine ⟨F, G, h1, g1, fun k hk hg => ?_⟩
    cases hpm : P0.m with
    | true => exact (g2 k hg).1 (.inr ⟨hpm.symm, hk⟩)
    | false =>
      rcases hm with hm | hm
      · rw [hm] at hpm; cases hpm
      · exact (g2 k hg).2 hm (.inr ⟨hpm.symm, hk⟩)
  | P0 :: r, U, i + 1, j + 1, P, Q, h, hi, hj, hij, hm => by
    obtain ⟨F, h1, h2, h4⟩ := h
    rw [List.getElem?_cons_succ] at hi hj
    exact SL.two h4 hi hj (by omega) hm
/-- What has become of the world w0: nothing below B turned; there are these things. -/
structure St (B : Nat) (w0 w : World) (l : List Ob) : Prop where
  base : B ≤ w0.heap.size
  keep : Keep (fun k => B ≤ k) w0 w
  sl : SL B w l (fun _ _ => False)
theorem St.size {B : Nat} {w0 w : World} {l : List Ob} (h : St B w0 w l) : B ≤ w.heap.size := Nat.le_trans h.base h.keep.size
theorem St.start (w : World) : St w.heap.size w w [] := ⟨Nat.le_refl _, Keep.refl _ _, trivial⟩
theorem St.end {w0 w : World} {l : List Ob} (h : St w0.heap.size w0 w l) : Below w0.heap.size w0 w := h.keep.below (Nat.le_refl _) fun k hk hf => by omega
theorem St.below {B : Nat} {w0 w w' : World} {l : List Ob} (h : St B w0 w l) (k : Below w.heap.size w w') : St B w0 w' l :=
  ⟨h.base, h.keep.trans (Keep.of_below k), SL.move (G := fun _ => False) (Keep.of_below k) h.sl (fun _ h => h.elim) (fun _ _ h => h.elim)⟩
theorem St.drewN {B : Nat} {w0 w : World} {l : List Ob} (h : St B w0 w l) (n : Nat) : St B w0 (w.drewN n) l := h.below (below_drewN (Below.refl _ _) n)
theorem St.drew {B : Nat} {w0 w : World} {l : List Ob} (h : St B w0 w l) : St B w0 w.drew l := h.below ⟨rfl, rfl, rfl, Nat.le_refl _, fun _ _ => rfl⟩
theorem St.alloc {B : Nat} {w0 w : World} {l : List Ob} (h : St B w0 w l) (o : Obj) : St B w0 (w.alloc o) l := h.below ((Below.refl _ _).alloc (Nat.le_refl _) o)
/-- A new thing. -/
theorem St.add {B : Nat} {w0 w w' : World} {l : List Ob} {F : Nat → Prop} {P : Ob} (h : St B w0 w l) (k : Below w.heap.size w w') (hp : P.p w' F) (hF : ∀ x, F x → w.heap.size ≤ x) : St B w0 w' (P :: l) := by
  have h' := h.below k
  refine ⟨h'.base, h'.keep, F, hp, fun x hx => ⟨fun h => h, fun _ => ⟨fun h => h, Nat.le_trans h.size (hF x hx)⟩⟩, SL.move (G := fun _ => False) (Keep.of_below k) h.sl (fun _ h => h.elim) fun m x hx => .inr (.inr ?_)⟩
  rcases hx with hx | hx
  · exact hx.elim
  · exact hF x hx.2
/-- One of them turns, or tells of something. -/
theorem St.at {B : Nat} {w0 w : World} {l : List Ob} {i : Nat} {P : Ob} (h : St B w0 w l) (hi : l[i]? = some P) :
    ∃ F, P.p w F ∧ (∀ x, F x → x < w.heap.size) ∧ (P.m = true → ∀ x, F x → B ≤ x) ∧
      ∀ (w' : World) (F' : Nat → Prop) (P' : Ob), P.m = true → Keep F w w' → P'.p w' F' → (∀ x, F' x → F x ∨ w.heap.size ≤ x) → St B w0 w' (l.set i P') := by
  obtain ⟨F, h1, h3, h4⟩ := SL.at h.size h.sl (fun _ _ h => h.elim) hi
  exact ⟨F, h1, P.lt h1, fun hm x hx => ((h3 x hx).2 hm).2, fun w' F' P' hm k hp hF => ⟨h.base, h.keep.trans (k.mono fun x _ hx => ((h3 x hx).2 hm).2), h4 w' F' P' (fun _ => hm) (k.mono fun x _ hx => ⟨hm, hx⟩) hp hF⟩⟩
theorem St.two {B : Nat} {w0 w : World} {l : List Ob} {i j : Nat} {P Q : Ob} (h : St B w0 w l) (hi : l[i]? = some P) (hj : l[j]? = some Q) (hij : i < j) (hm : P.m = true ∨ Q.m = true := by exact .inl rfl) : ∃ F G, P.p w F ∧ Q.p w G ∧ ∀ k, F k → ¬ G k := SL.two h.sl hi hj hij hm
theorem St.sub {B : Nat} {w0 w : World} {l l' : List Ob} (h : St B w0 w l) (hs : l'.Sublist l) : St B w0 w l' := ⟨h.base, h.keep, SL.sub hs h.sl⟩
theorem St.perm {B : Nat} {w0 w : World} {l l' : List Ob} (h : St B w0 w l) (hs : l.Perm l') : St B w0 w l' := ⟨h.base, h.keep, SL.perm hs h.sl⟩
theorem St.tail {B : Nat} {w0 w : World} {l : List Ob} {P : Ob} (h : St B w0 w (P :: l)) : St B w0 w l := h.sub (List.sublist_cons_self ..)
theorem St.swap {B : Nat} {w0 w : World} {l : List Ob} {P Q : Ob} (h : St B w0 w (P :: Q :: l)) : St B w0 w (Q :: P :: l) := ⟨h.base, h.keep, SL.swap h.sl⟩
/-- The same thing, told in another way. -/
theorem St.turn {B : Nat} {w0 w : World} {l : List Ob} {i : Nat} {P P' : Ob} (h : St B w0 w l) (hi : l[i]? = some P) (hm : P'.m = true → P.m = true) (hp : ∀ F, P.p w F → P'.p w F) : St B w0 w (l.set i P') := by
  obtain ⟨F, h1, h3, h4⟩ := SL.at h.size h.sl (fun _ _ h => h.elim) hi
  exact ⟨h.base, h.keep, h4 w F P' hm (Keep.refl _ _) (hp F h1) fun x hx => .inl hx⟩
/-- What lay below B reads as it did. -/
theorem St.bs {B : Nat} {w0 w : World} {l : List Ob} (h : St B w0 w l) {a : Option Addr} {n c : Nat} {b : List UInt8} (hb : Bs w0 a n c b) (ha : ∀ q, a = some q → 0 < b.length → q.block < B) : Bs w a n c b where
  len := Sl.len hb
  cap := Sl.cap hb
  room := Sl.room hb
  nilcap := Sl.nilcap hb
  cells := fun i v hi => by
    obtain ⟨b', o, e, hc⟩ := Sl.cells hb i v hi
    have hl : 0 < b.length := by
      have := (List.getElem?_eq_some_iff.1 hi).1
      simp at this; omega
    refine ⟨b', o, e, ?_⟩
    rw [cell_of_block (w := w0) (p := ⟨b', o + i, none⟩) (h.keep.block b' (World.block_lt_of_cell? w0 _ hc) (by have := ha _ e hl; show ¬ B ≤ b'; simp at this; omega))]
    exact hc
/-! ### Kinds of things -/
/-- Bytes that a slice value reads as. -/
def BsO (a : Option Addr) (n c : Nat) (b : List UInt8) : Ob where
  m := true
  p := fun w F => Bs w a n c b ∧ (∀ q, a = some q → 0 < b.length → F q.block) ∧ ∀ k, F k → k < w.heap.size
  lt := fun h => h.2.2
  kept := fun {w w' F G} h k hd => ⟨⟨Sl.len h.1, Sl.cap h.1, Sl.room h.1, Sl.nilcap h.1, fun i v hi => by
    obtain ⟨b', o, e, hc⟩ := Sl.cells h.1 i v hi
    have hl : 0 < b.length := by
      have := (List.getElem?_eq_some_iff.1 hi).1
      simp at this; omega
    refine ⟨b', o, e, ?_⟩
    rw [cell_of_block (w := w) (p := ⟨b', o + i, none⟩) (k.block b' (World.block_lt_of_cell? w _ hc) (hd _ (h.2.1 _ e hl)))]
    exact hc⟩, h.2.1, fun x hx => Nat.lt_of_lt_of_le (h.2.2 x hx) k.size⟩
/-- A row of one's own: a slice that may be appended to. -/
def OwO (e : TypeId) (z : Nat) (v : Value) (n : Nat) (cs : List Value) : Ob where
  m := true
  p := fun w F => w.ownsRow 0 e z v n cs ∧ (∀ g, v.ownBlock = some g → F g) ∧ ∀ k, F k → k < w.heap.size
  lt := fun h => h.2.2
  kept := fun {w w' F G} h k hd => ⟨own_kept h.1 k fun g hg => hd g (h.2.1 g hg), h.2.1, fun x hx => Nat.lt_of_lt_of_le (h.2.2 x hx) k.size⟩
/-- A variable, or a struct behind a pointer. -/
def RowO (b : Nat) (e : TypeId) (cs : List Value) : Ob where
  m := true
  p := fun w F => Row w b e cs ∧ F b ∧ ∀ k, F k → k < w.heap.size
  lt := fun h => h.2.2
  kept := fun {w w' F G} h k hd => ⟨h.1.keep k (hd b h.2.1), h.2.1, fun x hx => Nat.lt_of_lt_of_le (h.2.2 x hx) k.size⟩
/-- An arena. -/
def ArO (T e : TypeId) (p : Nat) (A : Ar) : Ob where
  m := true
  p := fun w F => ∃ v, ArAt T e w p A v ∧ (∀ k, arF p v k → F k) ∧ ∀ k, F k → k < w.heap.size
  lt := fun ⟨_, h⟩ => h.2.2
  kept := fun {w w' F G} ⟨v, h⟩ k hd => ⟨v, h.1.kept k fun x hx => hd x (h.2.1 x hx), h.2.1, fun x hx => Nat.lt_of_lt_of_le (h.2.2 x hx) k.size⟩
/-- Bytes that are only read. -/
def AsO (a : Option Addr) (n c : Nat) (b : List UInt8) : Ob where
  m := false
  p := (BsO a n c b).p
  lt := (BsO a n c b).lt
  kept := (BsO a n c b).kept
theorem St.as {B : Nat} {w0 w : World} {l : List Ob} {i : Nat} {a : Option Addr} {n c : Nat} {b : List UInt8} (h : St B w0 w l) (hi : l[i]? = some (AsO a n c b)) : Bs w a n c b := by
  obtain ⟨F, h1, _⟩ := h.at hi
  exact h1.1
theorem St.bsO {B : Nat} {w0 w : World} {l : List Ob} {i : Nat} {a : Option Addr} {n c : Nat} {b : List UInt8} (h : St B w0 w l) (hi : l[i]? = some (BsO a n c b)) : Bs w a n c b := by
  obtain ⟨F, h1, _⟩ := h.at hi
  exact h1.1
theorem St.row {B : Nat} {w0 w : World} {l : List Ob} {i : Nat} {b : Nat} {e : TypeId} {cs : List Value} (h : St B w0 w l) (hi : l[i]? = some (RowO b e cs)) : Row w b e cs := by
  obtain ⟨F, h1, _⟩ := h.at hi
  exact h1.1
theorem St.own {B : Nat} {w0 w : World} {l : List Ob} {i : Nat} {e : TypeId} {z : Nat} {v : Value} {n : Nat} {cs : List Value} (h : St B w0 w l) (hi : l[i]? = some (OwO e z v n cs)) : w.ownsRow 0 e z v n cs := by
  obtain ⟨F, h1, _⟩ := h.at hi
  exact h1.1
theorem St.ar {B : Nat} {w0 w : World} {l : List Ob} {i : Nat} {T e : TypeId} {p : Nat} {A : Ar} (h : St B w0 w l) (hi : l[i]? = some (ArO T e p A)) : ∃ v, ArAt T e w p A v := by
  obtain ⟨F, ⟨v, h1⟩, _⟩ := h.at hi
  exact ⟨v, h1.1⟩
/-- An arena that turns. -/
theorem St.arTo {B : Nat} {w0 w : World} {l : List Ob} {i : Nat} {T e : TypeId} {p : Nat} {A : Ar} (h : St B w0 w l) (hi : l[i]? = some (ArO T e p A)) :
    ∃ v, ArAt T e w p A v ∧ ∀ (w' : World) (A' : Ar) (v' : Value), ArAt T e w' p A' v' → Keep (arF p v) w w' → (v'.ownBlock = v.ownBlock ∨ v'.ownBlock = some w.heap.size) → St B w0 w' (l.set i (ArO T e p A')) := by
  obtain ⟨F, ⟨v, h1, h2, h3⟩, _, _, h4⟩ := h.at hi
  refine ⟨v, h1, fun w' A' v' ha k hv => h4 w' (arF p v') _ rfl (k.mono fun x _ hx => h2 x hx) ⟨v', ha, fun _ h => h, fun x hx => ha.lt hx⟩ fun x hx => ?_⟩
  rcases hx with rfl | hx
  · exact .inl (h2 _ (.inl rfl))
  · rcases hv with hv | hv
    · exact .inl (h2 _ (.inr (by rw [← hv]; exact hx)))
    · rw [hv] at hx; cases hx; exact .inr (Nat.le_refl _)
/-- A new row of one's own. -/
theorem St.addOwn {B : Nat} {w0 w w' : World} {l : List Ob} {e : TypeId} {z : Nat} {v : Value} {n : Nat} {cs : List Value} (h : St B w0 w l) (k : Below w.heap.size w w') (hp : w'.ownsRow w.heap.size e z v n cs) : St B w0 w' (OwO e z v n cs :: l) :=
  h.add (F := fun x => v.ownBlock = some x) k ⟨own_base hp (Nat.zero_le _), fun _ h => h, fun x hx => (own_block_lt hp hx).2⟩ fun x hx => (own_block_lt hp hx).1
theorem St.addBs {B : Nat} {w0 w w' : World} {l : List Ob} {a : Option Addr} {n c : Nat} {b : List UInt8} (h : St B w0 w l) (k : Below w.heap.size w w') (hp : Bs w' a n c b) (ha : ∀ q, a = some q → 0 < b.length → w.heap.size ≤ q.block) : St B w0 w' (BsO a n c b :: l) :=
  h.add (F := fun x => ∃ q, a = some q ∧ 0 < b.length ∧ q.block = x) k ⟨hp, fun q hq h0 => ⟨q, hq, h0, rfl⟩, fun x ⟨q, hq, h0, e⟩ => by
    obtain ⟨b', o, e', hc⟩ := Sl.cells hp 0 (bv b[0]) (by simp [h0])
    rw [e'] at hq
    cases hq
    subst e
    exact World.block_lt_of_cell? w' _ hc⟩ fun x ⟨q, hq, h0, e⟩ => e ▸ ha q hq h0
theorem St.addRow {B : Nat} {w0 w : World} {l : List Ob} (h : St B w0 w l) (e : TypeId) (cs : List Value) : St B w0 (w.alloc (.cells cs.toArray e (0, 0))) (RowO w.heap.size e cs :: l) :=
  h.add (F := fun x => x = w.heap.size) ((Below.refl _ _).alloc (Nat.le_refl _) _) ⟨Row.made _ _ _, rfl, fun x hx => by rw [hx]; simp⟩ fun x hx => by rw [hx]; exact Nat.le_refl _
/-- Bytes that are only read from here on. -/
theorem St.read {B : Nat} {w0 w : World} {l : List Ob} {i : Nat} {a : Option Addr} {n c : Nat} {b : List UInt8} (h : St B w0 w l) (hi : l[i]? = some (BsO a n c b)) : St B w0 w (l.set i (AsO a n c b)) :=
  h.turn hi (fun h => by cases h) fun _ h => h
/-- Bytes that came in. -/
theorem St.arg {B : Nat} {w0 w : World} {l : List Ob} {a : Option Addr} {n c : Nat} {b : List UInt8} (h : St B w0 w l) (hb : Bs w0 a n c b) (ha : ∀ q, a = some q → 0 < b.length → q.block < B) : St B w0 w (AsO a n c b :: l) := by
  have hw := h.bs hb ha
  refine ⟨h.base, h.keep, fun x => ∃ q, a = some q ∧ 0 < b.length ∧ q.block = x, ⟨hw, fun q hq h0 => ⟨q, hq, h0, rfl⟩, fun x ⟨q, hq, h0, e⟩ => e ▸ Nat.lt_of_lt_of_le (ha q hq h0) h.size⟩, fun x _ => ⟨fun h => h, fun h => by cases h⟩, SL.low h.sl fun m x hx => .inr ?_⟩
  rcases hx with hx | ⟨hm, q, hq, h0, e⟩
  · exact hx.elim
  · exact ⟨hm, e ▸ ha q hq h0⟩
/-- A row of bytes of one's own, only read from here on. -/
theorem St.ownBs {B : Nat} {w0 w : World} {l : List Ob} {e : TypeId} {v : Value} {n : Nat} {b : List UInt8} (h : St B w0 w (OwO e 1 v n (b.map bv) :: l)) : ∃ a c, v = .slice a n c ∧ St B w0 w (BsO a n c b :: l) := by
  obtain ⟨h1, h2, F, f1, f2, h4⟩ := h
  have ho := f1.1
  obtain ⟨a, c, rfl, _, hs⟩ := Sl.of_owned ho
  refine ⟨a, c, rfl, h1, h2, F, ⟨hs, fun q hq h0 => f1.2.1 _ ?_, f1.2.2⟩, f2, h4⟩
  obtain ⟨_, ho⟩ := ho
  rcases ho with ⟨e1, _⟩ | ⟨g, cap, cur, e1, _⟩
  · cases e1; cases hq
  · cases e1; cases hq; rfl
end Go.Own
