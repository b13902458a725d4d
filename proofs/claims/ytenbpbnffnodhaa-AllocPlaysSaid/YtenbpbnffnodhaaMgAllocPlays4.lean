/- Texts of the proof of 'AllocPlays', part 4: words on memory, contracts of functions, plain laws. No condition. -/
import Derived.Test.YtenbpbnffnodhaaMgAllocPlays3
import Derived.WalkKit
import Derived.Deep.MidRow
import Derived.DeepKeys4
import Derived.WideKeyElems
import Derived.Carry
import Derived.Maps.OwnSet
/- Blocks, lists, bytes of an arena that is right: a gap between blocks, what is taken out of a list and put in, a gap that is closed. No program. -/
namespace Go.Own
/-- Blocks one behind the other, from o to e. -/
def TileTo (b : List UInt8) (e : Nat) : Nat → List Blk → Prop
  | o, [] => o = e
  | o, x :: r => blkAt b o = some x ∧ TileTo b e (o + x.size) r
theorem tile_to {b : List UInt8} : ∀ {l : List Blk} {o : Nat}, Tile b o l ↔ TileTo b b.length o l
  | [], _ => Iff.rfl
  | x :: l, o => by simp only [Tile, TileTo, tile_to (l := l)]
theorem TileTo.append {b : List UInt8} {e : Nat} : ∀ {l1 l2 : List Blk} {o : Nat}, TileTo b e o (l1 ++ l2) ↔ ∃ m, TileTo b m o l1 ∧ TileTo b e m l2
  | [], l2, o => ⟨fun h => ⟨o, rfl, h⟩, fun ⟨m, h1, h2⟩ => by have h1 : o = m := h1; rw [h1]; exact h2⟩
  | x :: l1, l2, o => by
    simp only [List.cons_append, TileTo, TileTo.append (l1 := l1)]
    exact ⟨fun ⟨a, m, c, d⟩ => ⟨m, ⟨a, c⟩, d⟩, fun ⟨m, ⟨a, c⟩, d⟩ => ⟨a, m, c, d⟩⟩
theorem TileTo.le {b : List UInt8} {e : Nat} : ∀ {l : List Blk} {o : Nat}, TileTo b e o l → o ≤ e
  | [], _, h => Nat.le_of_eq h
  | _ :: _, _, h => Nat.le_trans (Nat.le_add_right _ _) (TileTo.le h.2)
theorem TileTo.mem {b : List UInt8} {e : Nat} {x : Blk} : ∀ {l : List Blk} {o : Nat}, TileTo b e o l → x ∈ l → o ≤ x.off ∧ blkAt b x.off = some x ∧ x.off + x.size ≤ e
  | [], _, _, h => by cases h
  | y :: r, o, ht, h => by
    have hy := blkAt_some ht.1
    rcases List.mem_cons.1 h with rfl | h
    · have := ht.2.le; rw [hy.1]; exact ⟨Nat.le_refl _, ht.1, by omega⟩
    · have := ht.2.mem h; exact ⟨by omega, this.2⟩
theorem TileTo.apart {b : List UInt8} {e : Nat} {x y : Blk} : ∀ {l : List Blk} {o : Nat}, TileTo b e o l → x ∈ l → y ∈ l → x = y ∨ x.off + x.size ≤ y.off ∨ y.off + y.size ≤ x.off
  | [], _, _, h, _ => by cases h
  | z :: r, o, ht, hx, hy => by
    have hz := blkAt_some ht.1
    rcases List.mem_cons.1 hx with e1 | h1 <;> rcases List.mem_cons.1 hy with e2 | h2
    · exact .inl (e1.trans e2.symm)
    · subst e1; have := ht.2.mem h2; exact .inr (.inl (by omega))
    · subst e2; have := ht.2.mem h1; exact .inr (.inr (by omega))
    · exact ht.2.apart h1 h2
theorem TileTo.mod {b : List UInt8} {e : Nat} : ∀ {l : List Blk} {o : Nat}, TileTo b e o l → o % 16 = 8 → e % 16 = 8
  | [], _, h, h8 => by have h : _ = e := h; omega
  | x :: l, o, h, h8 => by have := blkAt_some h.1; exact TileTo.mod h.2 (by omega)
theorem TileTo.touch {T : Nat → Prop} {b b' : List UInt8} (ht : Touch T b b') {e : Nat} : ∀ {l : List Blk} {o : Nat}, TileTo b e o l → (∀ x ∈ l, ∀ t, T t → (x.off + 8 ≤ t ∨ t + 8 ≤ x.off) ∧ (x.off + x.size ≤ t ∨ t + 8 ≤ x.off + x.size - 8)) → TileTo b' e o l
  | [], _, h, _ => h
  | x :: l, o, h, hf => by
    have hx := (blkAt_some h.1).1
    refine ⟨blkAt_touch ht h.1 fun t h3 => ?_, TileTo.touch ht h.2 fun y hy => hf y (List.mem_cons_of_mem _ hy)⟩
    have := hf x (List.mem_cons_self ..) t h3
    rw [hx] at this; exact this
/-- The lists hang on the header's words and on the link words of what is in them. -/
theorem Lists.frame {b b' : List UInt8} {bs bs' : List Blk} {ls : Nat → List Nat} (h : Lists b bs ls) (hh : ∀ t, t + 8 ≤ 184 → t % 8 = 0 → numAt b' t = numAt b t)
    (hl : ∀ c, c < 22 → ∀ o ∈ ls c, numAt b' (o + 8) = numAt b (o + 8) ∧ numAt b' (o + 16) = numAt b (o + 16))
    (hm : ∀ c, c < 22 → ∀ o ∈ ls c, ∃ x ∈ bs', x.off = o ∧ x.used = false ∧ cls x.size = c) : Lists b' bs' ls where
  w0 := by rw [hh 0 (by omega) rfl]; exact h.w0
  bit := fun c hc => by rw [hh 0 (by omega) rfl]; exact h.bit c hc
  seg := fun c hc => by
    obtain ⟨z, hz⟩ := h.seg c hc
    rw [hh (headO c) (by unfold headO; omega) (by unfold headO; omega)]
    exact ⟨z, hz.frame (hl c hc)⟩
  mem := hm
  nodup := h.nodup
theorem Lists.mono {b : List UInt8} {bs bs' : List Blk} {ls : Nat → List Nat} (h : Lists b bs ls) (hm : ∀ c, c < 22 → ∀ o ∈ ls c, ∃ x ∈ bs', x.off = o ∧ x.used = false ∧ cls x.size = c) : Lists b bs' ls :=
  h.frame (fun _ _ _ => rfl) (fun _ _ _ _ => ⟨rfl, rfl⟩) hm
def clsN (s : Nat) : Nat := (cls s).toNat
theorem clsN_lt {b : List UInt8} {o : Nat} {x : Blk} (h : blkAt b o = some x) : clsN x.size < 22 ∧ cls x.size = clsN x.size := by
  have := cls_size (blkAt_isSize h)
  unfold clsN; omega
def outL (ls : Nat → List Nat) (c o : Nat) : Nat → List Nat := fun d => if d = c then (ls c).filter (· ≠ o) else ls d
def inL (ls : Nat → List Nat) (c o : Nat) : Nat → List Nat := fun d => if d = c then o :: ls c else ls d
/-- The used ones of blocks. -/
def usedOf (bs : List Blk) : List Blk := bs.filter (·.used)
theorem mem_usedOf {bs : List Blk} {x : Blk} : x ∈ usedOf bs ↔ x ∈ bs ∧ x.used = true := by unfold usedOf; rw [List.mem_filter]
/-- A word that has no byte of these blocks. -/
def Spare (us : List Blk) (t : Nat) : Prop := ∀ y ∈ us, t + 8 ≤ y.off ∨ y.off + y.size ≤ t
/-- All bytes of these blocks are as they were. -/
def SameU (us : List Blk) (b b' : List UInt8) : Prop := ∀ y ∈ us, (b'.drop y.off).take y.size = (b.drop y.off).take y.size
theorem SameU.refl (us : List Blk) (b : List UInt8) : SameU us b b := fun _ _ => rfl
theorem SameU.trans {us : List Blk} {a b c : List UInt8} (h : SameU us a b) (k : SameU us b c) : SameU us a c := fun y hy => (k y hy).trans (h y hy)
theorem SameU.of {us : List Blk} {T : Nat → Prop} {b b' : List UInt8} (h : Touch T b b') (ht : ∀ t, T t → Spare us t) : SameU us b b' := fun y hy => h.same _ _ fun t h1 => (ht t h1 y hy).symm
theorem SameU.mono {us vs : List Blk} {b b' : List UInt8} (h : SameU us b b') (hv : ∀ y ∈ vs, y ∈ us) : SameU vs b b' := fun y hy => h y (hv y hy)
/-- An arena that is right: its blocks, its lists. -/
structure Right (b : List UInt8) (bs : List Blk) (ls : Nat → List Nat) : Prop where
  max : b.length ≤ 16384
  tile : TileTo b b.length 184 bs
  lists : Lists b bs ls
  cover : ∀ y ∈ bs, y.used = false → y.off ∈ ls (clsN y.size)
/-- The same, but for a gap from o on, of s bytes, that is no block. -/
structure Hole (b : List UInt8) (pre : List Blk) (o s : Nat) (post : List Blk) (ls : Nat → List Nat) : Prop where
  max : b.length ≤ 16384
  tpre : TileTo b o 184 pre
  size : 32 ≤ s ∧ s % 16 = 0
  tpost : TileTo b b.length (o + s) post
  lists : Lists b (pre ++ post) ls
  cover : ∀ y ∈ pre ++ post, y.used = false → y.off ∈ ls (clsN y.size)
theorem Right.good {b : List UInt8} {bs : List Blk} {ls : Nat → List Nat} (h : Right b bs ls) : Good b bs := (tile_to.2 h.tile).good
theorem Right.len {b : List UInt8} {bs : List Blk} {ls : Nat → List Nat} (h : Right b bs ls) : 184 ≤ b.length := h.tile.le
section
variable {b : List UInt8} {pre post : List Blk} {o s : Nat} {ls : Nat → List Nat}
theorem Hole.at (h : Hole b pre o s post ls) : 184 ≤ o ∧ o % 16 = 8 ∧ o + s ≤ b.length ∧ 184 ≤ b.length := by
  have h1 := h.tpre.le; have h2 := h.tpost.le
  exact ⟨h1, h.tpre.mod (by decide), h2, by have := h.size; omega⟩
theorem Hole.sized (h : Hole b pre o s post ls) : isSize s = true := by
  have h1 := h.size; have h2 := h.max; have h3 := h.at
  exact isSize_yes (by omega)
theorem Hole.side (h : Hole b pre o s post ls) {x : Blk} (hx : x ∈ pre ++ post) : 184 ≤ x.off ∧ blkAt b x.off = some x ∧ x.off + x.size ≤ b.length ∧ (x.off + x.size ≤ o ∨ o + s ≤ x.off) := by
  have h3 := h.at
  rcases List.mem_append.1 hx with hx | hx
  · have := h.tpre.mem hx; exact ⟨by omega, this.2.1, by omega, .inl this.2.2⟩
  · have := h.tpost.mem hx; exact ⟨by omega, this.2.1, this.2.2, .inr this.1⟩
theorem Hole.good (h : Hole b pre o s post ls) : Good b (pre ++ post) where
  mem := fun hx => by have := h.side hx; exact ⟨this.1, this.2.1, this.2.2.1⟩
  apart := fun {x y} hx hy => by
    rcases List.mem_append.1 hx with h1 | h1 <;> rcases List.mem_append.1 hy with h2 | h2
    · exact h.tpre.apart h1 h2
    · have := h.tpre.mem h1; have := h.tpost.mem h2; exact .inr (.inl (by omega))
    · have := h.tpre.mem h2; have := h.tpost.mem h1; exact .inr (.inr (by omega))
    · exact h.tpost.apart h1 h2
theorem LinkW.spare {bs : List Blk} (h : Good b bs) {t : Nat} (ht : LinkW bs t) : Spare (usedOf bs) t := by
  intro y hy
  obtain ⟨hy, hu⟩ := mem_usedOf.1 hy
  have h1 := h.mem hy
  rcases ht with ht | ⟨x, hx, hxu, ht⟩
  · exact .inl (by omega)
  · have h2 := blkAt_some (h.mem hx).2.1
    rcases h.apart hx hy with e | e | e
    · rw [e, hu] at hxu; cases hxu
    · exact .inl (by omega)
    · exact .inr (by omega)
/-- A free block that is taken out of its list. -/
theorem take_free {bs : List Blk} (hg : Good b bs) (hl : 184 ≤ b.length) (h : Lists b bs ls) (hc : ∀ y ∈ bs, y.used = false → y.off ∈ ls (clsN y.size)) {y : Blk} (hy : y ∈ bs) (hu : y.used = false) :
    ∃ b', takeB b y.off = some b' ∧ Touch (LinkW bs) b b' ∧ Lists b' bs (outL ls (clsN y.size) y.off) ∧ ∀ d, d < 22 → ∀ q ∈ outL ls (clsN y.size) y.off d, ∃ x ∈ bs, x ≠ y ∧ x.off = q ∧ x.used = false ∧ cls x.size = d := by
  have hcy := clsN_lt (hg.mem hy).2.1
  obtain ⟨b', h1, h2, h3⟩ := takeB_lists h hg hl hcy.1 (hc y hy hu)
  refine ⟨b', h1, h2, h3, fun d hd q hq => ?_⟩
  obtain ⟨x, hx, e1, e2, e3⟩ := h3.mem d hd q hq
  refine ⟨x, hx, fun e => ?_, e1, e2, e3⟩
  subst e
  have hdc : d = clsN x.size := by omega
  subst hdc
  unfold outL at hq
  rw [if_pos rfl, List.mem_filter] at hq
  simp [e1] at hq
theorem out_cover {bs : List Blk} (hg : Good b bs) (hc : ∀ y ∈ bs, y.used = false → y.off ∈ ls (clsN y.size)) {y z : Blk} (hy : y ∈ bs) (hz : z ∈ bs) (hne : z ≠ y) (hu : z.used = false) : z.off ∈ outL ls (clsN y.size) y.off (clsN z.size) := by
  have h1 := hc z hz hu
  have hoff : z.off ≠ y.off := fun e => by
    have g1 := (hg.mem hz).2.1; have g2 := (hg.mem hy).2.1
    rw [e, g2] at g1
    simp only [Option.some.injEq] at g1
    exact hne g1.symm
  unfold outL
  split
  · rename_i e; rw [e] at h1; rw [List.mem_filter]; exact ⟨h1, by simpa using hoff⟩
  · exact h1
/-- What is behind the gap is free: taken out of its list, the gap has it. -/
theorem Hole.next {y : Blk} (h : Hole b pre o s (y :: post) ls) (hu : y.used = false) :
    ∃ b', takeB b y.off = some b' ∧ y.off = o + s ∧ b'.length = b.length ∧ SameU (usedOf (pre ++ post)) b b' ∧ Hole b' pre o (s + y.size) post (outL ls (clsN y.size) y.off) := by
  have hm : y ∈ pre ++ y :: post := List.mem_append_right _ (List.mem_cons_self ..)
  have hg := h.good
  have hat := h.at
  obtain ⟨b', h1, h2, h3, h4⟩ := take_free hg hat.2.2.2 h.lists h.cover hm hu
  have hys := blkAt_some h.tpost.1
  have hsub : ∀ x ∈ pre ++ post, x ∈ pre ++ y :: post := fun x hx => by
    rcases List.mem_append.1 hx with hx | hx
    · exact List.mem_append_left _ hx
    · exact List.mem_append_right _ (List.mem_cons_of_mem _ hx)
  refine ⟨b', h1, hys.1, h2.len, (SameU.of h2 fun t ht => LinkW.spare hg ht).mono fun z hz => ?_, ?_⟩
  · obtain ⟨hz, hzu⟩ := mem_usedOf.1 hz
    exact mem_usedOf.2 ⟨hsub z hz, hzu⟩
  refine ⟨by rw [h2.len]; exact h.max, h.tpre.touch h2 fun x hx t ht => ht.off hg (List.mem_append_left _ hx), ⟨by have := h.size; omega, by have := h.size; omega⟩, ?_, ?_, fun z hz hzu => ?_⟩
  · rw [h2.len]
    have := (TileTo.touch h2 h.tpost fun x hx t ht => ht.off hg (List.mem_append_right _ hx)).2
    rw [Nat.add_assoc] at this; exact this
  · refine h3.mono fun d hd q hq => ?_
    obtain ⟨x, hx, hne, e⟩ := h4 d hd q hq
    refine ⟨x, ?_, e⟩
    rcases List.mem_append.1 hx with hx | hx
    · exact List.mem_append_left _ hx
    · rcases List.mem_cons.1 hx with hx | hx
      · exact absurd hx hne
      · exact List.mem_append_right _ hx
  · refine out_cover hg h.cover hm (hsub z hz) (fun e => ?_) hzu
    subst e
    have h5 := h.tpost.le
    rcases List.mem_append.1 hz with hz | hz
    · have := h.tpre.mem hz; have := h.size; omega
    · have := h.tpost.2.mem hz; omega
/-- What is ahead of the gap is free: taken out of its list, the gap has it. -/
theorem Hole.prev {y : Blk} (h : Hole b (pre ++ [y]) o s post ls) (hu : y.used = false) :
    ∃ b', takeB b y.off = some b' ∧ y.off + y.size = o ∧ b'.length = b.length ∧ SameU (usedOf (pre ++ post)) b b' ∧ Hole b' pre y.off (y.size + s) post (outL ls (clsN y.size) y.off) := by
  have hm : y ∈ (pre ++ [y]) ++ post := List.mem_append_left _ (List.mem_append_right _ (List.mem_cons_self ..))
  have hg := h.good
  have hat := h.at
  obtain ⟨b', h1, h2, h3, h4⟩ := take_free hg hat.2.2.2 h.lists h.cover hm hu
  obtain ⟨m, hp1, hp2⟩ := TileTo.append.1 h.tpre
  have hys := blkAt_some hp2.1
  have hym : y.off = m := hys.1
  have hyo : m + y.size = o := hp2.2
  have hsub : ∀ x ∈ pre ++ post, x ∈ (pre ++ [y]) ++ post := fun x hx => by
    rcases List.mem_append.1 hx with hx | hx
    · exact List.mem_append_left _ (List.mem_append_left _ hx)
    · exact List.mem_append_right _ hx
  refine ⟨b', h1, by omega, h2.len, (SameU.of h2 fun t ht => LinkW.spare hg ht).mono fun z hz => ?_, ?_⟩
  · obtain ⟨hz, hzu⟩ := mem_usedOf.1 hz
    exact mem_usedOf.2 ⟨hsub z hz, hzu⟩
  refine ⟨by rw [h2.len]; exact h.max, ?_, ⟨by have := h.size; omega, by have := h.size; omega⟩, ?_, ?_, fun z hz hzu => ?_⟩
  · rw [hym]; exact hp1.touch h2 fun x hx t ht => ht.off hg (List.mem_append_left _ (List.mem_append_left _ hx))
  · rw [h2.len, show y.off + (y.size + s) = o + s by omega]
    exact h.tpost.touch h2 fun x hx t ht => ht.off hg (List.mem_append_right _ hx)
  · refine h3.mono fun d hd q hq => ?_
    obtain ⟨x, hx, hne, e⟩ := h4 d hd q hq
    refine ⟨x, ?_, e⟩
    rcases List.mem_append.1 hx with hx | hx
    · rcases List.mem_append.1 hx with hx | hx
      · exact List.mem_append_left _ hx
      · exact absurd (List.mem_singleton.1 hx) hne
    · exact List.mem_append_right _ hx
  · refine out_cover hg h.cover hm (hsub z hz) (fun e => ?_) hzu
    subst e
    rcases List.mem_append.1 hz with hz | hz
    · have := hp1.mem hz; omega
    · have := h.tpost.mem hz; have := h.size; omega
/-- Both tags are laid: the gap is a block. -/
theorem Hole.set (h : Hole b pre o s post ls) (u : Bool) :
    Touch (fun t => o ≤ t ∧ t + 8 ≤ o + s) b (setB b ⟨o, s, u⟩) ∧ TileTo (setB b ⟨o, s, u⟩) b.length 184 (pre ++ ⟨o, s, u⟩ :: post) ∧ Lists (setB b ⟨o, s, u⟩) (pre ++ ⟨o, s, u⟩ :: post) ls ∧ SameU (usedOf (pre ++ post)) b (setB b ⟨o, s, u⟩) := by
  have hat := h.at; have hsz := h.size
  have ht : Touch (fun t => o ≤ t ∧ t + 8 ≤ o + s) b (setB b ⟨o, s, u⟩) := setB_touch b ⟨o, s, u⟩ (by show 16 ≤ s; omega) (by show o + s ≤ _; omega) ⟨Nat.le_refl _, by show o + 8 ≤ _; omega⟩ ⟨by show o ≤ o + s - 8; omega, by show o + s - 8 + 8 ≤ _; omega⟩
  have hoff : ∀ x ∈ pre ++ post, ∀ t, (o ≤ t ∧ t + 8 ≤ o + s) → (x.off + 8 ≤ t ∨ t + 8 ≤ x.off) ∧ (x.off + x.size ≤ t ∨ t + 8 ≤ x.off + x.size - 8) := fun x hx t ht => by
    have h1 := h.side hx; have h2 := blkAt_some h1.2.1; omega
  refine ⟨ht, TileTo.append.2 ⟨o, h.tpre.touch ht fun x hx => hoff x (List.mem_append_left _ hx), blkAt_setB hat.1 hat.2.1 h.sized hat.2.2.1, h.tpost.touch ht fun x hx => hoff x (List.mem_append_right _ hx)⟩, ?_, SameU.of ht fun t h1 y hy => ?_⟩
  · refine h.lists.frame (fun t h1 _ => ht.num t fun t' h2 => by omega) (fun c hc q hq => ?_) (fun c hc q hq => ?_)
    · obtain ⟨x, hx, rfl, _⟩ := h.lists.mem c hc q hq
      have h1 := h.side hx; have h2 := blkAt_some h1.2.1
      exact ⟨ht.num _ fun t' h3 => by omega, ht.num _ fun t' h3 => by omega⟩
    · obtain ⟨x, hx, e⟩ := h.lists.mem c hc q hq
      refine ⟨x, ?_, e⟩
      rcases List.mem_append.1 hx with hx | hx
      · exact List.mem_append_left _ hx
      · exact List.mem_append_right _ (List.mem_cons_of_mem _ hx)
  · have := h.side (mem_usedOf.1 hy).1; omega
theorem Hole.close (h : Hole b pre o s post ls) : Right (setB b ⟨o, s, true⟩) (pre ++ ⟨o, s, true⟩ :: post) ls := by
  obtain ⟨h1, h2, h3, _⟩ := h.set true
  refine ⟨by rw [h1.len]; exact h.max, by rw [h1.len]; exact h2, h3, fun y hy hu => ?_⟩
  refine h.cover y ?_ hu
  rcases List.mem_append.1 hy with hy | hy
  · exact List.mem_append_left _ hy
  · rcases List.mem_cons.1 hy with rfl | hy
    · cases hu
    · exact List.mem_append_right _ hy
/-- The gap is a free block, the first of its list. -/
theorem Hole.put (h : Hole b pre o s post ls) :
    ∃ b', putB (setB b ⟨o, s, false⟩) o = some b' ∧ b'.length = b.length ∧ SameU (usedOf (pre ++ post)) b b' ∧ Right b' (pre ++ ⟨o, s, false⟩ :: post) (inL ls (clsN s) o) := by
  obtain ⟨h1, h2, h3, h4⟩ := h.set false
  have hg : Good (setB b ⟨o, s, false⟩) (pre ++ ⟨o, s, false⟩ :: post) := (tile_to.2 (by rw [h1.len]; exact h2)).good
  have hm : (⟨o, s, false⟩ : Blk) ∈ pre ++ ⟨o, s, false⟩ :: post := List.mem_append_right _ (List.mem_cons_self ..)
  have hc := clsN_lt (hg.mem hm).2.1
  have hat := h.at
  have hno : o ∉ ls (clsN s) := fun hq => by
    obtain ⟨x, hx, e, _⟩ := h.lists.mem _ hc.1 _ hq
    have g1 := h.side hx; have g2 := blkAt_some g1.2.1; have := h.size; omega
  obtain ⟨b', p1, p2, p3⟩ := putB_lists h3 hg (by rw [h1.len]; exact hat.2.2.2) (by rw [h1.len]; exact h.max) hc.1 hm rfl hc.2 hno
  have hlen : b'.length = b.length := p2.len.trans h1.len
  refine ⟨b', p1, hlen, h4.trans ((SameU.of p2 fun t ht => LinkW.spare hg ht).mono fun y hy => ?_), by rw [hlen]; exact h.max, ?_, p3, fun y hy hu => ?_⟩
  · obtain ⟨hy, hu⟩ := mem_usedOf.1 hy
    refine mem_usedOf.2 ⟨?_, hu⟩
    rcases List.mem_append.1 hy with hy | hy
    · exact List.mem_append_left _ hy
    · exact List.mem_append_right _ (List.mem_cons_of_mem _ hy)
  · rw [hlen]
    exact TileTo.touch p2 h2 fun x hx t ht => ht.off hg hx
  · have hy' : y = ⟨o, s, false⟩ ∨ y ∈ pre ++ post := by
      rcases List.mem_append.1 hy with hy | hy
      · exact .inr (List.mem_append_left _ hy)
      · rcases List.mem_cons.1 hy with hy | hy
        · exact .inl hy
        · exact .inr (List.mem_append_right _ hy)
    unfold inL
    rcases hy' with rfl | hy'
    · rw [if_pos rfl]; exact List.mem_cons_self ..
    · have := h.cover y hy' hu
      split
      · rename_i e; rw [e] at this; exact List.mem_cons_of_mem _ this
      · exact this
end
section
variable {b : List UInt8} {pre post : List Blk} {x : Blk} {ls : Nat → List Nat}
/-- A used block, told as a gap. -/
theorem Right.hole (h : Right b (pre ++ x :: post) ls) (hu : x.used = true) : Hole b pre x.off x.size post ls := by
  obtain ⟨m, h1, h2⟩ := TileTo.append.1 h.tile
  have hx := blkAt_some h2.1
  have hm : x.off = m := hx.1
  have hsub : ∀ y ∈ pre ++ post, y ∈ pre ++ x :: post := fun y hy => by
    rcases List.mem_append.1 hy with hy | hy
    · exact List.mem_append_left _ hy
    · exact List.mem_append_right _ (List.mem_cons_of_mem _ hy)
  refine ⟨h.max, by rw [hm]; exact h1, by omega, by rw [hm]; exact h2.2, h.lists.mono fun c hc q hq => ?_, fun y hy => h.cover y (hsub y hy)⟩
  obtain ⟨y, hy, e1, e2, e3⟩ := h.lists.mem c hc q hq
  refine ⟨y, ?_, e1, e2, e3⟩
  rcases List.mem_append.1 hy with hy | hy
  · exact List.mem_append_left _ hy
  · rcases List.mem_cons.1 hy with rfl | hy
    · rw [hu] at e2; cases e2
    · exact List.mem_append_right _ hy
/-- A free block that is taken out of its list is a gap. -/
theorem Right.take (h : Right b (pre ++ x :: post) ls) (hu : x.used = false) :
    ∃ b', takeB b x.off = some b' ∧ b'.length = b.length ∧ SameU (usedOf (pre ++ post)) b b' ∧ Hole b' pre x.off x.size post (outL ls (clsN x.size) x.off) ∧ blkAt b' x.off = some x := by
  have hm : x ∈ pre ++ x :: post := List.mem_append_right _ (List.mem_cons_self ..)
  have hg := h.good
  obtain ⟨b', h1, h2, h3, h4⟩ := take_free hg h.len h.lists h.cover hm hu
  have ht := TileTo.touch h2 h.tile fun y hy t ht => ht.off hg hy
  obtain ⟨m, t1, t2⟩ := TileTo.append.1 ht
  have hx := blkAt_some t2.1
  have hxm : x.off = m := hx.1
  have hsub : ∀ y ∈ pre ++ post, y ∈ pre ++ x :: post := fun y hy => by
    rcases List.mem_append.1 hy with hy | hy
    · exact List.mem_append_left _ hy
    · exact List.mem_append_right _ (List.mem_cons_of_mem _ hy)
  refine ⟨b', h1, h2.len, (SameU.of h2 fun t ht => LinkW.spare hg ht).mono fun z hz => ?_, ⟨by rw [h2.len]; exact h.max, by rw [hxm]; exact t1, by omega, by rw [hxm, h2.len]; exact t2.2, ?_, fun z hz hzu => ?_⟩, by rw [hxm]; exact t2.1⟩
  · obtain ⟨hz, hzu⟩ := mem_usedOf.1 hz
    exact mem_usedOf.2 ⟨hsub z hz, hzu⟩
  · refine h3.mono fun d hd q hq => ?_
    obtain ⟨y, hy, hne, e⟩ := h4 d hd q hq
    refine ⟨y, ?_, e⟩
    rcases List.mem_append.1 hy with hy | hy
    · exact List.mem_append_left _ hy
    · rcases List.mem_cons.1 hy with hy | hy
      · exact absurd hy hne
      · exact List.mem_append_right _ hy
  · refine out_cover hg h.cover hm (hsub z hz) (fun e => ?_) hzu
    subst e
    rcases List.mem_append.1 hz with hz | hz
    · have := t1.mem hz; omega
    · have := t2.2.mem hz; omega
/-- A gap is cut in two; the first part is a block. -/
theorem Hole.cut {o s n : Nat} (h : Hole b pre o s post ls) (hn : isSize n = true) (hr : n + 32 ≤ s) :
    Hole (setB b ⟨o, n, true⟩) (pre ++ [⟨o, n, true⟩]) (o + n) (s - n) post ls ∧ SameU (usedOf (pre ++ post)) b (setB b ⟨o, n, true⟩) ∧ (setB b ⟨o, n, true⟩).length = b.length := by
  have hat := h.at; have hsz := h.size
  have hn' := (isSize_iff _).1 hn
  have ht : Touch (fun t => o ≤ t ∧ t + 8 ≤ o + s) b (setB b ⟨o, n, true⟩) := setB_touch b ⟨o, n, true⟩ (by show 16 ≤ n; omega) (by show o + n ≤ _; omega) ⟨Nat.le_refl _, by show o + 8 ≤ _; omega⟩ ⟨by show o ≤ o + n - 8; omega, by show o + n - 8 + 8 ≤ _; omega⟩
  have hoff : ∀ x ∈ pre ++ post, ∀ t, (o ≤ t ∧ t + 8 ≤ o + s) → (x.off + 8 ≤ t ∨ t + 8 ≤ x.off) ∧ (x.off + x.size ≤ t ∨ t + 8 ≤ x.off + x.size - 8) := fun x hx t ht => by
    have h1 := h.side hx; have h2 := blkAt_some h1.2.1; omega
  refine ⟨⟨by rw [ht.len]; exact h.max, TileTo.append.2 ⟨o, h.tpre.touch ht fun x hx => hoff x (List.mem_append_left _ hx), blkAt_setB hat.1 hat.2.1 hn (by omega), rfl⟩, by omega, ?_, ?_, fun y hy hu => ?_⟩, SameU.of ht fun t h1 y hy => ?_, ht.len⟩
  · rw [ht.len, show o + n + (s - n) = o + s by omega]
    exact h.tpost.touch ht fun x hx => hoff x (List.mem_append_right _ hx)
  · refine h.lists.frame (fun t h1 _ => ht.num t fun t' h2 => by omega) (fun c hc q hq => ?_) (fun c hc q hq => ?_)
    · obtain ⟨x, hx, rfl, _⟩ := h.lists.mem c hc q hq
      have h1 := h.side hx; have h2 := blkAt_some h1.2.1
      exact ⟨ht.num _ fun t' h3 => by omega, ht.num _ fun t' h3 => by omega⟩
    · obtain ⟨x, hx, e⟩ := h.lists.mem c hc q hq
      refine ⟨x, ?_, e⟩
      rcases List.mem_append.1 hx with hx | hx
      · exact List.mem_append_left _ (List.mem_append_left _ hx)
      · exact List.mem_append_right _ hx
  · refine h.cover y ?_ hu
    rcases List.mem_append.1 hy with hy | hy
    · rcases List.mem_append.1 hy with hy | hy
      · exact List.mem_append_left _ hy
      · rw [List.mem_singleton.1 hy] at hu; cases hu
    · exact List.mem_append_right _ hy
  · have := h.side (mem_usedOf.1 hy).1; omega
end
end Go.Own

/- Which free block is found, in plain words. No program. -/
namespace Go.Own
/-- The size of the block at a place; 0: none is there. -/
def sizeAt (bs : List Blk) (o : Nat) : Nat := match bs.find? (fun x => x.off == o) with
  | some x => x.size
  | none => 0
theorem find_off {b : List UInt8} {bs : List Blk} (hg : Good b bs) {x : Blk} (hx : x ∈ bs) : bs.find? (fun y => y.off == x.off) = some x := by
  cases h : bs.find? (fun y => y.off == x.off) with
  | none =>
    have := List.find?_eq_none.1 h x hx
    simp at this
  | some y =>
    have h1 := List.find?_some h
    have h2 := List.mem_of_find?_eq_some h
    have e : y.off = x.off := by simpa using h1
    have g1 := (hg.mem h2).2.1; have g2 := (hg.mem hx).2.1
    rw [e, g2] at g1
    exact g1.symm
theorem sizeAt_mem {b : List UInt8} {bs : List Blk} (hg : Good b bs) {x : Blk} (hx : x ∈ bs) : sizeAt bs x.off = x.size := by
  unfold sizeAt; rw [find_off hg hx]
/-- Of so many classes from c on, the first block in a list that is large enough. -/
def findIn (bs : List Blk) (ls : Nat → List Nat) (size : Nat) : Nat → Nat → Option Nat
  | 0, _ => none
  | f + 1, c => match (ls c).find? (fun o => decide (size ≤ sizeAt bs o)) with
    | some o => some o
    | none => findIn bs ls size f (c + 1)
theorem findIn_some {bs : List Blk} {ls : Nat → List Nat} {size o : Nat} : ∀ {f c : Nat}, findIn bs ls size f c = some o → ∃ d, c ≤ d ∧ d < c + f ∧ o ∈ ls d ∧ size ≤ sizeAt bs o
  | 0, _, h => by cases h
  | f + 1, c, h => by
    unfold findIn at h
    split at h
    · rename_i o' e
      simp only [Option.some.injEq] at h
      subst h
      have h1 := List.find?_some e
      exact ⟨c, Nat.le_refl _, by omega, List.mem_of_find?_eq_some e, by simpa using h1⟩
    · obtain ⟨d, h1, h2, h3⟩ := findIn_some h
      exact ⟨d, by omega, by omega, h3⟩
theorem findIn_none {bs : List Blk} {ls : Nat → List Nat} {size : Nat} : ∀ {f c : Nat}, findIn bs ls size f c = none → ∀ d, c ≤ d → d < c + f → ∀ o ∈ ls d, ¬ size ≤ sizeAt bs o
  | 0, _, _, d, h1, h2, _, _ => by omega
  | f + 1, c, h, d, h1, h2, o, ho => by
    unfold findIn at h
    split at h
    · cases h
    · rename_i e
      by_cases hd : d = c
      · subst hd
        have := List.find?_eq_none.1 e o ho
        simpa using this
      · exact findIn_none h d (by omega) (by omega) o ho
theorem firstFit_find {b : List UInt8} {bs : List Blk} (hg : Good b bs) {size : Nat} : ∀ (l : List Nat), (∀ o ∈ l, ∃ x ∈ bs, x.off = o) → firstFit b size l = l.find? (fun o => decide (size ≤ sizeAt bs o))
  | [], _ => rfl
  | o :: l, h => by
    obtain ⟨x, hx, rfl⟩ := h o (List.mem_cons_self ..)
    have ih := firstFit_find hg (size := size) l fun o ho => h o (List.mem_cons_of_mem _ ho)
    unfold firstFit
    rw [(hg.mem hx).2.1, List.find?_cons, sizeAt_mem hg hx]
    simp only
    by_cases hs : size ≤ x.size
    · rw [if_pos hs, decide_eq_true hs]
    · rw [if_neg hs, decide_eq_false hs]; exact ih
theorem findFrom_in {b : List UInt8} {bs : List Blk} {ls : Nat → List Nat} (hl : Lists b bs ls) (hg : Good b bs) (h1 : 184 ≤ b.length) (h2 : b.length ≤ 16384) {size : Nat} : ∀ (f c : Nat), c + f ≤ 22 → findFrom b size f c = some ((findIn bs ls size f c).getD 0)
  | 0, _, _ => rfl
  | f + 1, c, hc => by
    unfold findFrom findIn
    rw [hl.all hg h1 h2 (by omega)]
    simp only
    rw [firstFit_find hg (ls c) fun o ho => by
      obtain ⟨x, hx, e, _⟩ := hl.mem c (by omega) o ho
      exact ⟨x, hx, e⟩]
    cases (ls c).find? (fun o => decide (size ≤ sizeAt bs o)) with
    | some o => rfl
    | none => exact findFrom_in hl hg h1 h2 f (c + 1) (by omega)
/-- Where a block with so many bytes is found. -/
def findL (bs : List Blk) (ls : Nat → List Nat) (size : Nat) : Option Nat := findIn bs ls size (22 - clsN size) (clsN size)
theorem clsN_mono {s t : Nat} (hs : isSize s = true) (ht : isSize t = true) (h : s ≤ t) : clsN s ≤ clsN t := by
  have h1 := (isSize_iff _).1 hs; have h2 := (isSize_iff _).1 ht
  unfold clsN cls; rw [hs, ht]; simp only [if_true]
  repeat' split
  all_goals omega
theorem clsN_lt22 {s : Nat} (hs : isSize s = true) : clsN s < 22 := by have := cls_size hs; unfold clsN; omega
theorem findB_right {b : List UInt8} {bs : List Blk} {ls : Nat → List Nat} (h : Right b bs ls) {size : Nat} (hs : isSize size = true) : findB b size = some ((findL bs ls size).getD 0) := by
  have hc := clsN_lt22 hs
  have := findFrom_in h.lists h.good h.len h.max (size := size) (22 - clsN size) (clsN size) (by omega)
  exact this
/-- What is found is free, and has so many bytes. -/
theorem findL_some {b : List UInt8} {bs : List Blk} {ls : Nat → List Nat} (h : Right b bs ls) {size o : Nat} (hs : isSize size = true) (hf : findL bs ls size = some o) : ∃ x ∈ bs, x.off = o ∧ x.used = false ∧ size ≤ x.size ∧ o ≠ 0 := by
  have hc := clsN_lt22 hs
  obtain ⟨d, h1, h2, h3, h4⟩ := findIn_some hf
  obtain ⟨x, hx, rfl, hu, _⟩ := h.lists.mem d (by omega) o h3
  rw [sizeAt_mem h.good hx] at h4
  have := (h.good.mem hx).1
  exact ⟨x, hx, rfl, hu, h4, by omega⟩
/-- None is found: none has so many bytes. -/
theorem findL_none {b : List UInt8} {bs : List Blk} {ls : Nat → List Nat} (h : Right b bs ls) {size : Nat} (hs : isSize size = true) (hf : findL bs ls size = none) {x : Blk} (hx : x ∈ bs) (hu : x.used = false) : x.size < size := by
  have hc := clsN_lt22 hs
  have hxs := (h.good.mem hx).2.1
  have hxc := clsN_lt hxs
  by_cases hle : size ≤ x.size
  · have hm := clsN_mono hs (blkAt_isSize hxs) hle
    have := findIn_none hf (clsN x.size) hm (by omega) x.off (h.cover x hx hu)
    rw [sizeAt_mem h.good hx] at this
    omega
  · omega
end Go.Own

/- The lists made anew, block by block. No program. -/
namespace Go.Own
theorem Tile.offs {b : List UInt8} : ∀ {r : List Blk} {o : Nat}, Tile b o r → r.Pairwise fun u v => u.off ≠ v.off
  | [], _, _ => List.Pairwise.nil
  | u :: r, o, h => by
    refine List.Pairwise.cons (fun v hv => ?_) (Tile.offs h.2)
    have h2 := blkAt_some h.1
    have h3 := h.2.mem hv
    omega
end Go.Own

/- Blocks of bytes: the reference's Lay and Set. -/
namespace Go.Own
open Go Go.RowKit
theorem St.bsV {B : Nat} {w0 w : World} {l : List Ob} {i : Nat} {e : TypeId} {a : Option Addr} {n c m : Nat} {b : List UInt8} (h : St B w0 w l) (hi : l[i]? = some (OwO e 1 (.slice a n c) m (b.map bv))) : Bs w a n c b := by
  obtain ⟨_, _, e, hb⟩ := h.bsOwn hi
  cases e; exact hb
end Go.Own
namespace Go.Proofs.Ytenbpbnffnodhaa
open Go Go.RowKit Go.Own
set_option linter.unusedVariables false
set_option maxRecDepth 100000
section
variable {B : Nat} {w0 w : World} {l : List Ob}
end
end Go.Proofs.Ytenbpbnffnodhaa

/- Blocks of bytes: the reference's Set. -/
namespace Go.Own
open Go Go.RowKit
end Go.Own
namespace Go.Proofs.Ytenbpbnffnodhaa
open Go Go.RowKit Go.Own
set_option linter.unusedVariables false
set_option maxRecDepth 100000
section
variable {B : Nat} {w0 w : World} {l : List Ob}
end
end Go.Proofs.Ytenbpbnffnodhaa

/- What a well formed number is. -/
namespace Go.Own
open Go
theorem wfU64 {a : Int} (h : (Lit.int .u64 a).wf = true) : 0 ≤ a ∧ a ≤ 18446744073709551615 := by
  simp [Lit.wf, IntKind.min, IntKind.max, IntKind.bits, IntKind.signed] at h; omega
theorem wfI64 {a : Int} (h : (Lit.int .i64 a).wf = true) : -9223372036854775808 ≤ a ∧ a ≤ 9223372036854775807 := by
  simp [Lit.wf, IntKind.min, IntKind.max, IntKind.bits, IntKind.signed] at h; omega
end Go.Own

/- Cells of a slice of structs; the statements' Pick. -/
namespace Go.Own
open Go Go.RowKit
theorem flat_at {α : Type} (f : α → List Value) (z : Nat) (hz : ∀ d, (f d).length = z) : ∀ (ds : List α) (k : Nat) (hk : k < ds.length) (j : Nat), j < z → (ds.map f).flatten[k * z + j]? = (f ds[k])[j]?
  | [], k, hk, _, _ => absurd hk (Nat.not_lt_zero _)
  | d :: ds, 0, _, j, hj => by
    rw [List.map_cons, List.flatten_cons, Nat.zero_mul, Nat.zero_add, List.getElem?_append_left (by rw [hz]; exact hj)]; rfl
  | d :: ds, k + 1, hk, j, hj => by
    rw [List.map_cons, List.flatten_cons, Nat.succ_mul, List.getElem?_append_right (by rw [hz]; omega), hz, show k * z + z + j - z = k * z + j by omega]
    exact flat_at f z hz ds k (by simpa using hk) j hj
/-- The cells of a slice of structs, each as it is addressed. -/
theorem sl_at {α : Type} {f : α → List Value} {z : Nat} {w : World} {a : Option Addr} {n c : Nat} {ds : List α} (h : Sl w a n c z (ds.map f).flatten) (hz : ∀ d, (f d).length = z) (h0 : 0 < z) (k : Nat) (hk : k < ds.length) :
    ∃ b o, a = some ⟨b, o, none⟩ ∧ ∀ j v, (f ds[k])[j]? = some v → w.cell? ⟨b, o + k * z + j, none⟩ = some v := by
  have h1 := flat_at f z hz ds k hk 0 h0
  have h2 : (f ds[k])[0]? = some ((f ds[k])[0]'(by rw [hz]; exact h0)) := List.getElem?_eq_getElem _
  obtain ⟨b, o, rfl, _⟩ := h.cells _ _ (h1.trans h2)
  refine ⟨b, o, rfl, fun j v hv => ?_⟩
  have hj : j < z := by have := (List.getElem?_eq_some_iff.1 hv).1; rw [hz] at this; exact this
  obtain ⟨b', o', e, hc⟩ := h.cells _ _ ((flat_at f z hz ds k hk j hj).trans hv)
  cases e
  rw [Nat.add_assoc]; exact hc
end Go.Own
namespace Go.Proofs.Ytenbpbnffnodhaa
open Go Go.RowKit Go.Own
set_option linter.unusedVariables false
set_option maxRecDepth 100000
theorem law_Pick (w : World) (n b : Int) (h0 : -9223372036854775808 ≤ n) (h1 : n ≤ 9223372036854775807) (b0 : 0 < b) (b1 : b ≤ 4611686018427387904) :
    Calls Try.prog 29 #[.int .i64 n, .int .i64 b] w fun e w' => e = .returned (.int .i64 (n % b)) ∧ w = w' := by
  have hne : ¬ b = 0 := by omega
  have hbz : (b == 0) = false := by rw [beq_eq_false_iff_ne]; omega
  by_cases hn : 0 ≤ n
  · have ht : n.tmod b = n % b := Int.tmod_eq_emod_of_nonneg hn
    have hp := Int.emod_nonneg n hne
    have hlt := Int.emod_lt_of_pos n b0
    generalize n % b = q at *
    go_enter Try.func29, Try.ntmps29
    go_wp2
    go_ret
    exact ⟨rfl, rfl⟩
  · have hp := Int.emod_nonneg n hne
    have hlt := Int.emod_lt_of_pos n b0
    have ht : n.tmod b = if n % b = 0 then 0 else n % b - b := by
      rw [Int.tmod_eq_emod]
      by_cases hz : n % b = 0
      · have : b ∣ n := Int.dvd_of_emod_eq_zero hz
        simp [hz, this]
      · have : ¬ b ∣ n := fun h => hz (Int.emod_eq_zero_of_dvd h)
        rw [if_neg hz, if_neg (by simp [hn, this])]
        have : (b.natAbs : Int) = b := by omega
        rw [this]
    generalize n % b = q at *
    by_cases hz : q = 0
    · rw [if_pos hz] at ht
      subst hz
      go_enter Try.func29, Try.ntmps29
      go_wp2
      go_ret
      exact ⟨rfl, rfl⟩
    · rw [if_neg hz] at ht
      clear hz
      go_enter Try.func29, Try.ntmps29
      go_wp2
      go_ret
      exact ⟨rI (by omega), rfl⟩
end Go.Proofs.Ytenbpbnffnodhaa

/- The statements' Blocks: whether two lists of blocks are one. -/
namespace Go.Proofs.Ytenbpbnffnodhaa
open Go Go.RowKit Go.Own
set_option linter.unusedVariables false
set_option maxRecDepth 100000
theorem mid_keep {F : Nat → Prop} {w w' : World} (hk : Keep F w w') {b o : Nat} {v : Value} (hc : w.cell? ⟨b, o, none⟩ = some v) (hb : ¬ F b) : w'.cell? ⟨b, o, none⟩ = some v := by
  rw [cell_of_block (w := w) (p := ⟨b, o, none⟩) (hk.block b (World.block_lt_of_cell? w _ hc) hb)]; exact hc
set_option maxHeartbeats 4000000 in
theorem law_Blocks (w : World) (a : Option Addr) (c : Nat) (L : List Blk) (a2 : Option Addr) (c2 : Nat) (L2 : List Blk) (h1 : Sl w a L.length c 3 (L.map blC).flatten) (h2 : Sl w a2 L2.length c2 3 (L2.map blC).flatten) :
    Calls Try.prog 63 #[.slice a L.length c, .slice a2 L2.length c2] w fun e w' => e = .returned (.int .i64 (if L = L2 then 1 else 0)) ∧ Below w.heap.size w w' := by
  have p1 := h1.cap; have p2 := h1.room
  have q1 := h2.cap; have q2 := h2.room
  have H1 := Lib.hid h1; have H2 := Lib.hid h2
  clear h1 h2
  by_cases hl : L.length = L2.length
  · obtain ⟨R, hR⟩ : ∃ R : Int, R = (if L = L2 then 1 else 0) := ⟨_, rfl⟩
    rw [← hR]
    have HR := Lib.hid hR; have HLL := Lib.hid hl
    obtain ⟨N, hN⟩ : ∃ N, N = L.length := ⟨_, rfl⟩
    rw [← hl, ← hN]
    rw [← hN] at p1
    have HN := Lib.hid hN
    clear hR hl q1 hN
    go_enter Try.func63, Try.ntmps63
    go_wp2
    go_loopw [5] (fun vi wr => ∃ k : Nat, k ≤ N ∧ vi = .int .i64 k ∧ L.take k = L2.take k ∧ Below w.heap.size w wr) (fun vi _ => N - (intOf vi).toNat)
    case atStart => exact ⟨0, Nat.zero_le _, rfl, rfl, Below.refl _ _⟩
    case round =>
      obtain ⟨k, hk, rfl, ht, hb⟩ := hrel
      by_cases hlt : k < N
      · have l1 : k < L.length := by rw [← HN.out]; exact hlt
        have l2 : k < L2.length := by rw [← HLL.out]; exact l1
        obtain ⟨b1, o1, rfl, r1⟩ := sl_at H1.out blC_len (by decide) k l1
        obtain ⟨b2, o2, rfl, r2⟩ := sl_at H2.out blC_len (by decide) k l2
        have hx : L[k] = L2[k] ↔ L.take (k + 1) = L2.take (k + 1) := by
          rw [List.take_succ_eq_append_getElem l1, List.take_succ_eq_append_getElem l2, ht]
          constructor
          · intro h; rw [h]
          · intro h; exact List.singleton_inj.1 (List.append_cancel_left h)
        have hne : L[k] ≠ L2[k] → L ≠ L2 := fun h e => by subst e; exact h rfl
        generalize L[k] = x at *
        generalize L2[k] = y at *
        have x0 : w.cell? ⟨b1, o1 + k * 3, none⟩ = some (.int .i64 x.off) := r1 0 _ rfl
        have x1 : w.cell? ⟨b1, o1 + k * 3 + 1, none⟩ = some (.int .i64 x.size) := r1 1 _ rfl
        have x2 : w.cell? ⟨b1, o1 + k * 3 + 2, none⟩ = some (.bool x.used) := r1 2 _ rfl
        have y0 : w.cell? ⟨b2, o2 + k * 3, none⟩ = some (.int .i64 y.off) := r2 0 _ rfl
        have y1 : w.cell? ⟨b2, o2 + k * 3 + 1, none⟩ = some (.int .i64 y.size) := r2 1 _ rfl
        have y2 : w.cell? ⟨b2, o2 + k * 3 + 2, none⟩ = some (.bool y.used) := r2 2 _ rfl
        have kd := (Keep.of_below (F := fun _ => False) hb).drew
        have X0 := Lib.hid (mid_keep kd x0 (fun h => h)); have X1 := Lib.hid (mid_keep kd x1 (fun h => h)); have X2 := Lib.hid (mid_keep kd x2 (fun h => h))
        have Y0 := Lib.hid (mid_keep kd y0 (fun h => h)); have Y1 := Lib.hid (mid_keep kd y1 (fun h => h)); have Y2 := Lib.hid (mid_keep kd y2 (fun h => h))
        have HB := Lib.hid hb; have HX := Lib.hid hx; have HNE := Lib.hid hne
        have p4 : k < L2.length := l2
        clear x0 x1 x2 y0 y1 y2 hx hne hb ht kd r1 r2 l1 l2 p4
        by_cases hxy : x = y
        · subst hxy
          have HT := Lib.hid (HX.out.1 rfl)
          go_wp2
          refine flowe_begin (F := fun _ => False) hmixed 9 rfl (by repeat (first | with_reducible refine ps_then ?_ | with_reducible refine ps_block ?_ | with_reducible exact ps_body | refine ps_then ?_ | refine ps_block ?_ | exact ps_body)) (fun hps => ?_)
          simp only [List.replicate]
          have kk := (Keep.refl (fun _ => False) (wr)).drew
          refine flowe_take 0 (v := ?_) (a' := ?_) hps rfl (by kernel_rfl) rfl ?_ ?_ ?_
          rotate_left 2
          · intro w' hk; go_simp; try rfl
          · simp only [Act.put, List.setIfInBounds_toArray, List.set_cons_succ, List.set_cons_zero]; try rfl
          refine flowe_take 1 (v := ?_) (a' := ?_) hps rfl (by kernel_rfl) rfl ?_ ?_ ?_
          rotate_left 2
          · intro w' hk; go_simp; try rfl
          · simp only [Act.put, List.setIfInBounds_toArray, List.set_cons_succ, List.set_cons_zero]; try rfl
          refine flowe_take 2 (v := ?_) (a' := ?_) hps rfl (by kernel_rfl) rfl ?_ ?_ ?_
          rotate_left 2
          · intro w' hk; go_simp; try rfl
          · simp only [Act.put, List.setIfInBounds_toArray, List.set_cons_succ, List.set_cons_zero]; try rfl
          refine flowe_take 3 (v := ?_) (a' := ?_) hps rfl (by kernel_rfl) rfl ?_ ?_ ?_
          rotate_left 2
          · intro w' hk; have c0 := mid_keep hk X0.out (fun h => h); have c1 := mid_keep hk X1.out (fun h => h); have c2 := mid_keep hk X2.out (fun h => h); go_simp; try rfl
          · simp only [Act.put, List.setIfInBounds_toArray, List.set_cons_succ, List.set_cons_zero]; try rfl
          refine flowe_take 4 (v := ?_) (a' := ?_) hps rfl (by kernel_rfl) rfl ?_ ?_ ?_
          rotate_left 2
          · intro w' hk; go_simp; try rfl
          · simp only [Act.put, List.setIfInBounds_toArray, List.set_cons_succ, List.set_cons_zero]; try rfl
          refine flowe_take 5 (v := ?_) (a' := ?_) hps rfl (by kernel_rfl) rfl ?_ ?_ ?_
          rotate_left 2
          · intro w' hk; go_simp; try rfl
          · simp only [Act.put, List.setIfInBounds_toArray, List.set_cons_succ, List.set_cons_zero]; try rfl
          refine flowe_take 6 (v := ?_) (a' := ?_) hps rfl (by kernel_rfl) rfl ?_ ?_ ?_
          rotate_left 2
          · intro w' hk; go_simp; try rfl
          · simp only [Act.put, List.setIfInBounds_toArray, List.set_cons_succ, List.set_cons_zero]; try rfl
          refine flowe_take 7 (v := ?_) (a' := ?_) hps rfl (by kernel_rfl) rfl ?_ ?_ ?_
          rotate_left 2
          · intro w' hk; have c0 := mid_keep hk Y0.out (fun h => h); have c1 := mid_keep hk Y1.out (fun h => h); have c2 := mid_keep hk Y2.out (fun h => h); go_simp; try rfl
          · simp only [Act.put, List.setIfInBounds_toArray, List.set_cons_succ, List.set_cons_zero]; try rfl
          refine flowe_take 8 (v := ?_) (a' := ?_) hps rfl (by kernel_rfl) rfl ?_ ?_ ?_
          rotate_left 2
          · intro w' hk; go_simp; try rfl
          · simp only [Act.put, List.setIfInBounds_toArray, List.set_cons_succ, List.set_cons_zero]; try rfl
          refine flowe_done hps (by kernel_rfl) ?_
          have HB2 := Lib.hid (HB.out.trans ((kk.below (Nat.le_refl _) fun _ _ h => h).mono HB.out.size))
          clear kk
          go_wp2
          exact ⟨⟨k + 1, hlt, by go_num, HT.out, HB2.out⟩, by simp [intOf]; omega⟩
        · have HXY := Lib.hid hxy
          by_cases d1 : x.off = y.off
          · rw [← d1] at Y0
            by_cases d2 : x.size = y.size
            · have d3 : y.used = !x.used := by
                have hu : x.used ≠ y.used := fun h => hxy (by cases x; cases y; simp only at d1 d2 h; subst d1; subst d2; subst h; rfl)
                revert hu; cases x.used <;> cases y.used <;> simp
              rw [← d2] at Y1
              rw [d3] at Y2
              clear d1 d2 d3 hxy
              go_wp2
              refine flowe_begin (F := fun _ => False) hmixed 9 rfl (by repeat (first | with_reducible refine ps_then ?_ | with_reducible refine ps_block ?_ | with_reducible exact ps_body | refine ps_then ?_ | refine ps_block ?_ | exact ps_body)) (fun hps => ?_)
              simp only [List.replicate]
              have kk := (Keep.refl (fun _ => False) (wr)).drew
              refine flowe_take 0 (v := ?_) (a' := ?_) hps rfl (by kernel_rfl) rfl ?_ ?_ ?_
              rotate_left 2
              · intro w' hk; go_simp; try rfl
              · simp only [Act.put, List.setIfInBounds_toArray, List.set_cons_succ, List.set_cons_zero]; try rfl
              refine flowe_take 1 (v := ?_) (a' := ?_) hps rfl (by kernel_rfl) rfl ?_ ?_ ?_
              rotate_left 2
              · intro w' hk; go_simp; try rfl
              · simp only [Act.put, List.setIfInBounds_toArray, List.set_cons_succ, List.set_cons_zero]; try rfl
              refine flowe_take 2 (v := ?_) (a' := ?_) hps rfl (by kernel_rfl) rfl ?_ ?_ ?_
              rotate_left 2
              · intro w' hk; go_simp; try rfl
              · simp only [Act.put, List.setIfInBounds_toArray, List.set_cons_succ, List.set_cons_zero]; try rfl
              refine flowe_take 3 (v := ?_) (a' := ?_) hps rfl (by kernel_rfl) rfl ?_ ?_ ?_
              rotate_left 2
              · intro w' hk; have c0 := mid_keep hk X0.out (fun h => h); have c1 := mid_keep hk X1.out (fun h => h); have c2 := mid_keep hk X2.out (fun h => h); go_simp; try rfl
              · simp only [Act.put, List.setIfInBounds_toArray, List.set_cons_succ, List.set_cons_zero]; try rfl
              refine flowe_take 4 (v := ?_) (a' := ?_) hps rfl (by kernel_rfl) rfl ?_ ?_ ?_
              rotate_left 2
              · intro w' hk; go_simp; try rfl
              · simp only [Act.put, List.setIfInBounds_toArray, List.set_cons_succ, List.set_cons_zero]; try rfl
              refine flowe_take 5 (v := ?_) (a' := ?_) hps rfl (by kernel_rfl) rfl ?_ ?_ ?_
              rotate_left 2
              · intro w' hk; go_simp; try rfl
              · simp only [Act.put, List.setIfInBounds_toArray, List.set_cons_succ, List.set_cons_zero]; try rfl
              refine flowe_take 6 (v := ?_) (a' := ?_) hps rfl (by kernel_rfl) rfl ?_ ?_ ?_
              rotate_left 2
              · intro w' hk; go_simp; try rfl
              · simp only [Act.put, List.setIfInBounds_toArray, List.set_cons_succ, List.set_cons_zero]; try rfl
              refine flowe_take 7 (v := ?_) (a' := ?_) hps rfl (by kernel_rfl) rfl ?_ ?_ ?_
              rotate_left 2
              · intro w' hk; have c0 := mid_keep hk Y0.out (fun h => h); have c1 := mid_keep hk Y1.out (fun h => h); have c2 := mid_keep hk Y2.out (fun h => h); go_simp; try rfl
              · simp only [Act.put, List.setIfInBounds_toArray, List.set_cons_succ, List.set_cons_zero]; try rfl
              refine flowe_take 8 (v := ?_) (a' := ?_) hps rfl (by kernel_rfl) rfl ?_ ?_ ?_
              rotate_left 2
              · intro w' hk; go_simp; try rfl
              · simp only [Act.put, List.setIfInBounds_toArray, List.set_cons_succ, List.set_cons_zero]; try rfl
              refine flowe_done hps (by kernel_rfl) ?_
              have HB2 := Lib.hid (HB.out.trans ((kk.below (Nat.le_refl _) fun _ _ h => h).mono HB.out.size))
              clear kk
              go_wp2
              go_ret
              exact ⟨by rw [HR.out, if_neg (HNE.out HXY.out)]; rfl, HB2.out⟩
            · have d4 : ¬ ((x.size : Int) = (y.size : Int)) := by omega
              clear d1 d2 hxy
              go_wp2
              refine flowe_begin (F := fun _ => False) hmixed 9 rfl (by repeat (first | with_reducible refine ps_then ?_ | with_reducible refine ps_block ?_ | with_reducible exact ps_body | refine ps_then ?_ | refine ps_block ?_ | exact ps_body)) (fun hps => ?_)
              simp only [List.replicate]
              have kk := (Keep.refl (fun _ => False) (wr)).drew
              refine flowe_take 0 (v := ?_) (a' := ?_) hps rfl (by kernel_rfl) rfl ?_ ?_ ?_
              rotate_left 2
              · intro w' hk; go_simp; try rfl
              · simp only [Act.put, List.setIfInBounds_toArray, List.set_cons_succ, List.set_cons_zero]; try rfl
              refine flowe_take 1 (v := ?_) (a' := ?_) hps rfl (by kernel_rfl) rfl ?_ ?_ ?_
              rotate_left 2
              · intro w' hk; go_simp; try rfl
              · simp only [Act.put, List.setIfInBounds_toArray, List.set_cons_succ, List.set_cons_zero]; try rfl
              refine flowe_take 2 (v := ?_) (a' := ?_) hps rfl (by kernel_rfl) rfl ?_ ?_ ?_
              rotate_left 2
              · intro w' hk; go_simp; try rfl
              · simp only [Act.put, List.setIfInBounds_toArray, List.set_cons_succ, List.set_cons_zero]; try rfl
              refine flowe_take 3 (v := ?_) (a' := ?_) hps rfl (by kernel_rfl) rfl ?_ ?_ ?_
              rotate_left 2
              · intro w' hk; have c0 := mid_keep hk X0.out (fun h => h); have c1 := mid_keep hk X1.out (fun h => h); have c2 := mid_keep hk X2.out (fun h => h); go_simp; try rfl
              · simp only [Act.put, List.setIfInBounds_toArray, List.set_cons_succ, List.set_cons_zero]; try rfl
              refine flowe_take 4 (v := ?_) (a' := ?_) hps rfl (by kernel_rfl) rfl ?_ ?_ ?_
              rotate_left 2
              · intro w' hk; go_simp; try rfl
              · simp only [Act.put, List.setIfInBounds_toArray, List.set_cons_succ, List.set_cons_zero]; try rfl
              refine flowe_take 5 (v := ?_) (a' := ?_) hps rfl (by kernel_rfl) rfl ?_ ?_ ?_
              rotate_left 2
              · intro w' hk; go_simp; try rfl
              · simp only [Act.put, List.setIfInBounds_toArray, List.set_cons_succ, List.set_cons_zero]; try rfl
              refine flowe_take 6 (v := ?_) (a' := ?_) hps rfl (by kernel_rfl) rfl ?_ ?_ ?_
              rotate_left 2
              · intro w' hk; go_simp; try rfl
              · simp only [Act.put, List.setIfInBounds_toArray, List.set_cons_succ, List.set_cons_zero]; try rfl
              refine flowe_take 7 (v := ?_) (a' := ?_) hps rfl (by kernel_rfl) rfl ?_ ?_ ?_
              rotate_left 2
              · intro w' hk; have c0 := mid_keep hk Y0.out (fun h => h); have c1 := mid_keep hk Y1.out (fun h => h); have c2 := mid_keep hk Y2.out (fun h => h); go_simp; try rfl
              · simp only [Act.put, List.setIfInBounds_toArray, List.set_cons_succ, List.set_cons_zero]; try rfl
              refine flowe_take 8 (v := ?_) (a' := ?_) hps rfl (by kernel_rfl) rfl ?_ ?_ ?_
              rotate_left 2
              · intro w' hk; go_simp; try rfl
              · simp only [Act.put, List.setIfInBounds_toArray, List.set_cons_succ, List.set_cons_zero]; try rfl
              refine flowe_done hps (by kernel_rfl) ?_
              have HB2 := Lib.hid (HB.out.trans ((kk.below (Nat.le_refl _) fun _ _ h => h).mono HB.out.size))
              clear kk
              go_wp2
              go_ret
              exact ⟨by rw [HR.out, if_neg (HNE.out HXY.out)]; rfl, HB2.out⟩
          · have d4 : ¬ ((x.off : Int) = (y.off : Int)) := by omega
            clear d1 hxy
            go_wp2
            refine flowe_begin (F := fun _ => False) hmixed 9 rfl (by repeat (first | with_reducible refine ps_then ?_ | with_reducible refine ps_block ?_ | with_reducible exact ps_body | refine ps_then ?_ | refine ps_block ?_ | exact ps_body)) (fun hps => ?_)
            simp only [List.replicate]
            have kk := (Keep.refl (fun _ => False) (wr)).drew
            refine flowe_take 0 (v := ?_) (a' := ?_) hps rfl (by kernel_rfl) rfl ?_ ?_ ?_
            rotate_left 2
            · intro w' hk; go_simp; try rfl
            · simp only [Act.put, List.setIfInBounds_toArray, List.set_cons_succ, List.set_cons_zero]; try rfl
            refine flowe_take 1 (v := ?_) (a' := ?_) hps rfl (by kernel_rfl) rfl ?_ ?_ ?_
            rotate_left 2
            · intro w' hk; go_simp; try rfl
            · simp only [Act.put, List.setIfInBounds_toArray, List.set_cons_succ, List.set_cons_zero]; try rfl
            refine flowe_take 2 (v := ?_) (a' := ?_) hps rfl (by kernel_rfl) rfl ?_ ?_ ?_
            rotate_left 2
            · intro w' hk; go_simp; try rfl
            · simp only [Act.put, List.setIfInBounds_toArray, List.set_cons_succ, List.set_cons_zero]; try rfl
            refine flowe_take 3 (v := ?_) (a' := ?_) hps rfl (by kernel_rfl) rfl ?_ ?_ ?_
            rotate_left 2
            · intro w' hk; have c0 := mid_keep hk X0.out (fun h => h); have c1 := mid_keep hk X1.out (fun h => h); have c2 := mid_keep hk X2.out (fun h => h); go_simp; try rfl
            · simp only [Act.put, List.setIfInBounds_toArray, List.set_cons_succ, List.set_cons_zero]; try rfl
            refine flowe_take 4 (v := ?_) (a' := ?_) hps rfl (by kernel_rfl) rfl ?_ ?_ ?_
            rotate_left 2
            · intro w' hk; go_simp; try rfl
            · simp only [Act.put, List.setIfInBounds_toArray, List.set_cons_succ, List.set_cons_zero]; try rfl
            refine flowe_take 5 (v := ?_) (a' := ?_) hps rfl (by kernel_rfl) rfl ?_ ?_ ?_
            rotate_left 2
            · intro w' hk; go_simp; try rfl
            · simp only [Act.put, List.setIfInBounds_toArray, List.set_cons_succ, List.set_cons_zero]; try rfl
            refine flowe_take 6 (v := ?_) (a' := ?_) hps rfl (by kernel_rfl) rfl ?_ ?_ ?_
            rotate_left 2
            · intro w' hk; go_simp; try rfl
            · simp only [Act.put, List.setIfInBounds_toArray, List.set_cons_succ, List.set_cons_zero]; try rfl
            refine flowe_take 7 (v := ?_) (a' := ?_) hps rfl (by kernel_rfl) rfl ?_ ?_ ?_
            rotate_left 2
            · intro w' hk; have c0 := mid_keep hk Y0.out (fun h => h); have c1 := mid_keep hk Y1.out (fun h => h); have c2 := mid_keep hk Y2.out (fun h => h); go_simp; try rfl
            · simp only [Act.put, List.setIfInBounds_toArray, List.set_cons_succ, List.set_cons_zero]; try rfl
            refine flowe_take 8 (v := ?_) (a' := ?_) hps rfl (by kernel_rfl) rfl ?_ ?_ ?_
            rotate_left 2
            · intro w' hk; go_simp; try rfl
            · simp only [Act.put, List.setIfInBounds_toArray, List.set_cons_succ, List.set_cons_zero]; try rfl
            refine flowe_done hps (by kernel_rfl) ?_
            have HB2 := Lib.hid (HB.out.trans ((kk.below (Nat.le_refl _) fun _ _ h => h).mono HB.out.size))
            clear kk
            go_wp2
            go_ret
            exact ⟨by rw [HR.out, if_neg (HNE.out HXY.out)]; rfl, HB2.out⟩
      · have hkN : k = N := by omega
        subst hkN
        have hLL : L = L2 := by
          rw [List.take_of_length_le (by rw [HN.out]; exact Nat.le_refl _), List.take_of_length_le (by rw [HN.out, HLL.out]; exact Nat.le_refl _)] at ht
          exact ht
        have HB := Lib.hid hb; have HE := Lib.hid hLL
        clear ht hb hLL
        go_wp2
        go_ret
        refine ⟨?_, HB.out⟩
        rw [HR.out, if_pos HE.out]
        rfl
  · have hne : L ≠ L2 := fun h => hl (by rw [h])
    rw [if_neg hne]
    have h3 : ¬ (L.length : Int) = (L2.length : Int) := by omega
    clear hl
    go_enter Try.func63, Try.ntmps63
    go_wp2
    go_ret
    exact ⟨rfl, Below.refl _ _⟩
end Go.Proofs.Ytenbpbnffnodhaa

/- Words for the statements' walks: what comes in as lists of numbers, what lies in lists of blocks; an operation that stores a block. -/
namespace Go.Own
open Go Go.RowKit
theorem St.argCell {w0 w : World} {l : List Ob} (h : St w0.heap.size w0 w l) {b o : Nat} {v : Value} (hc : w0.cell? ⟨b, o, none⟩ = some v) : w.cell? ⟨b, o, none⟩ = some v := by
  have hb := World.block_lt_of_cell? w0 _ hc
  rw [cell_of_block (w := w0) (p := ⟨b, o, none⟩) (h.keep.block b hb (by show ¬ w0.heap.size ≤ b; simp only at hb; omega))]; exact hc
theorem Is.len {w : World} {k : IntKind} {a : Option Addr} {n c : Nat} {l : List Int} (h : Is w k a n c l) : n = l.length := by simpa using (Sl.len h.1).symm
theorem Ts.len {w : World} {a : Option Addr} {n c : Nat} {l : List Bool} (h : Ts w a n c l) : n = l.length := by simpa using (Sl.len h).symm
theorem Is.at {w : World} {k : IntKind} {a : Option Addr} {n c : Nat} {l : List Int} (h : Is w k a n c l) (i : Nat) (hi : i < l.length) :
    ∃ b o, a = some ⟨b, o, none⟩ ∧ w.cell? ⟨b, o + i, none⟩ = some (.int k l[i]) := Sl.cells h.1 i _ (by simp [hi])
theorem Ts.at {w : World} {a : Option Addr} {n c : Nat} {l : List Bool} (h : Ts w a n c l) (i : Nat) (hi : i < l.length) :
    ∃ b o, a = some ⟨b, o, none⟩ ∧ w.cell? ⟨b, o + i, none⟩ = some (.bool l[i]) := Sl.cells h i _ (by simp [hi])
end Go.Own
namespace Go.Proofs.Ytenbpbnffnodhaa
open Go Go.RowKit Go.Own
set_option linter.unusedVariables false
section
variable {B : Nat} {w0 w : World} {l : List Ob}
/-- A list of blocks of one's own: its value, its cells. -/
theorem bls_slice (h : St B w0 w l) {i : Nat} {v : Value} {L : List Blk} (hi : l[i]? = some (BlsO v L)) : ∃ a c, v = .slice a L.length c ∧ Sl w a L.length c 3 (L.map blC).flatten := by
  obtain ⟨a, c, e, _, hs⟩ := Sl.of_owned (h.own hi)
  exact ⟨a, c, e, hs⟩
theorem bls_sl (h : St B w0 w l) {i : Nat} {a : Option Addr} {n c : Nat} {L : List Blk} (hi : l[i]? = some (BlsO (.slice a n c) L)) : n = L.length ∧ Sl w a L.length c 3 (L.map blC).flatten := by
  obtain ⟨a, c, e, hs⟩ := bls_slice h hi
  cases e; exact ⟨rfl, hs⟩
/-- One of them, as its cells lie there. -/
theorem bl_at {a : Option Addr} {n c : Nat} {L : List Blk} (h : Sl w a n c 3 (L.map blC).flatten) (k : Nat) (hk : k < L.length) : ∃ b o, a = some ⟨b, o, none⟩ ∧ w.rangeAt b (o + k * 3) (blC L[k]) :=
  sl_at h blC_len (by decide) k hk
theorem bl_cells {b o : Nat} {x : Blk} (hr : w.rangeAt b o (blC x)) : w.cell? ⟨b, o, none⟩ = some (.int .i64 x.off) ∧ w.cell? ⟨b, o + 1, none⟩ = some (.int .i64 x.size) ∧ w.cell? ⟨b, o + 2, none⟩ = some (.bool x.used) :=
  ⟨hr 0 _ rfl, hr 1 _ rfl, hr 2 _ rfl⟩
section
variable {ops : Array Oper} {rest : List Oper} {o : Oper} {a : Act} {Q : Exit → Act → World → Prop} {K : Act → World → Prop}
/-- 'v = l[k]'. -/
theorem bl_mid (hgd : Region.wanted o (yielded ops a.tmps) = true) (x : Operand) (ho : o.op = .load 77 x) (b o' : Nat) (hx : a.eval x = .pointer (some ⟨b, o', none⟩)) (y : Blk) (hr : w.rangeAt b o' (blC y))
    (hk : wpList Try.prog ops Q rest (a.put o.dst (.agg #[.int .i64 y.off, .int .i64 y.size, .bool y.used])) w) : wpList Try.prog ops Q (o :: rest) a w :=
  at_wanted hgd fun _ hK => wp_load_mid 77 x ho b o' hx (blC y) _ hr Try.underlying77 rfl size_bl (hK _ _ hk)
end
end
end Go.Proofs.Ytenbpbnffnodhaa

/- The lists emptied, and made anew: the program's Clear and Rebuild. -/
namespace Go.Own
end Go.Own
namespace Go.Proofs.Ytenbpbnffnodhaa
open Go Go.RowKit Go.Own
set_option linter.unusedVariables false
set_option maxRecDepth 100000
section
variable {B : Nat} {w0 w : World} {l : List Ob} {i p bs cp : Nat} {b : List UInt8}
end
end Go.Proofs.Ytenbpbnffnodhaa

/- Which free block is found: the program's Find. -/
namespace Go.Own
theorem findFrom_succ {b : List UInt8} {S f c : Nat} : findFrom b S (f + 1) c = match allB b c with
    | none => none
    | some l => match firstFit b S l with
      | some o => some o
      | none => findFrom b S f (c + 1) := rfl
theorem firstFit_cons {b : List UInt8} {S o : Nat} {l : List Nat} : firstFit b S (o :: l) = match blkAt b o with
    | some x => if S ≤ x.size then some o else firstFit b S l
    | none => firstFit b S l := rfl
end Go.Own
namespace Go.Proofs.Ytenbpbnffnodhaa
open Go Go.RowKit Go.Own
set_option linter.unusedVariables false
set_option maxRecDepth 100000
/-- What Find tells. -/
def fndV (x : Option Nat) : Value := match x with | none => .tuple #[.int .i64 0, .iface 183 (.int .i64 3)] | some o => .tuple #[.int .i64 (o : Nat), .nilIface]
section
variable {B : Nat} {w0 w : World} {l : List Ob} {i p bs cp : Nat} {b : List UInt8}
set_option maxHeartbeats 8000000 in
theorem fit_Find (h : St B w0 w (l.set i (ArT p ⟨bs, cp, b⟩))) (hil : i < l.length) (S : Nat) (hs : isSize (S : Int) = true) :
    Calls Try.prog 94 #[arP p, .int .i64 S] w fun e w' => e = .returned (fndV (findB b S)) ∧ St B w0 w' (l.set i (ArT p ⟨bs, cp, b⟩)) := by
  obtain ⟨hsm, hbs⟩ := ls_small h hil
  have hsz := (isSize_iff _).1 hs
  have kc0 := class_Class w (S : Int) (by omega) (by omega)
  have hcs := cls_size hs
  obtain ⟨C, hC⟩ : ∃ C : Nat, cls S = C := ⟨(cls S).toNat, by omega⟩
  have hF : findB b S = findFrom b S (22 - C) C := by unfold findB; rw [hC, Int.toNat_natCast]
  rw [hC] at kc0 hcs
  obtain ⟨R, hR⟩ : ∃ R, findB b S = R := ⟨_, rfl⟩
  rw [hR] at hF ⊢
  have KC := Lib.hid kc0
  have H := Lib.hid h; have HF := Lib.hid hF
  have d1 : decide ((C : Int) < 0) = false := decide_eq_false (by omega)
  have hC22 : C ≤ 22 := by omega
  clear kc0 hs h hF hC hR hcs
  go_enter Try.func94, Try.ntmps94
  go_wp2_with fail
  have kc := KC.out
  with_reducible refine kc.mono ?_
  clear kc
  rintro e w' ⟨rfl, rfl⟩
  go_wp2
  go_loopw [6] (fun vc wr => ∃ f c : Nat, vc = .int .i64 c ∧ c + f = 22 ∧ R = findFrom b S f c ∧ St B w0 wr (l.set i (ArT p ⟨bs, cp, b⟩))) (fun vc _ => 22 - (intOf vc).toNat)
  case atStart => exact ⟨22 - C, C, rfl, by omega, HF.out, H.out⟩
  case round =>
    obtain ⟨f, c, rfl, hcf, hR, hS⟩ := hrel
    cases f with
    | zero =>
      obtain rfl : c = 22 := by omega
      have HR := Lib.hid (show R = some 0 from hR); have HS := Lib.hid hS
      clear hR hS
      go_wp2
      go_ret2
      exact ⟨by rw [HR.out]; rfl, HS.out⟩
    | succ f =>
      have hc : c < 22 := by omega
      rw [findFrom_succ] at hR
      have ka := ls_All hS hil c hc
      have d2 : decide ((c : Int) < 22) = true := decide_eq_true (by omega)
      cases hA : allB b c with
      | none =>
        rw [hA] at hR
        rw [hA, show errA none = .iface 183 (.int .i64 3) from rfl] at ka
        have HR := Lib.hid (show R = none from hR); have KA := Lib.hid ka
        clear hR hS ka hA
        go_wp2_with fail
        have kc := KA.out
        with_reducible refine kc.mono ?_
        clear kc
        rintro e w4 ⟨v4', rfl, t4⟩
        have T4 := Lib.hid t4
        clear t4
        go_wp2
        go_ret2
        exact ⟨by rw [HR.out]; rfl, T4.out.tail⟩
      | some L =>
        rw [hA] at hR
        rw [hA, show errA (some L) = .nilIface from rfl, Option.getD_some] at ka
        simp only at hR
        have HR := Lib.hid hR; have KA := Lib.hid ka
        clear hR hS ka hA
        go_wp2_with fail
        have kc := KA.out
        with_reducible refine kc.mono ?_
        clear kc
        rintro e w4 ⟨v4', rfl, t4⟩
        have T4 := Lib.hid t4
        clear t4
        obtain ⟨a4, c4, e4, hs4⟩ := ints_slice T4.out (i := 0) rfl
        subst e4
        have hLb := Sl.cap hs4; have hLr := Sl.room hs4
        clear hs4
        go_wp2
        go_loopw [33] (fun vk wr => ∃ k : Nat, k ≤ L.length ∧ vk = .int .i64 k ∧ (R = match firstFit b S (L.drop k) with | some o => some o | none => findFrom b S f (c + 1)) ∧ St B w0 wr (IntsO (.slice a4 L.length c4) L :: l.set i (ArT p ⟨bs, cp, b⟩))) (fun vk _ => L.length - (intOf vk).toNat)
        case atStart => exact ⟨0, Nat.zero_le _, rfl, HR.out, T4.out⟩
        case round =>
          obtain ⟨k, hk, rfl, hR, hS⟩ := hrel
          clear T4 HR
          by_cases hlt : k < L.length
          · obtain ⟨a5, c5, e5, hs5⟩ := ints_slice hS (i := 0) rfl
            obtain ⟨bb, bo, e6, hcell⟩ := Sl.cells hs5 k (.int .i64 (L[k] : Nat)) (by simp [hlt])
            cases e5
            subst e6
            have d3 : decide ((k : Int) < (L.length : Int)) = true := decide_eq_true (by omega)
            rw [List.drop_eq_getElem_cons hlt, firstFit_cons] at hR
            have hcell : wr.cell? ⟨bb, bo + k, none⟩ = some (.int .i64 (L[k] : Nat)) := hcell
            generalize L[k] = O at *
            have kg := blk_Get hS (i := i + 1) (at_set hil _) (O : Int)
            rw [show ({ base := bs, cap := cp, b := b } : Ar).b = b from rfl, blkI_nat] at kg
            clear hs5 hS
            cases hb : blkAt b O with
            | none =>
              rw [hb] at hR
              simp only at hR
              rw [hb, show bkV none = .agg #[.int .i64 0, .int .i64 0, .bool false] from rfl, show errO none = .iface 183 (.int .i64 3) from rfl] at kg
              have HR := Lib.hid hR; have KG := Lib.hid kg
              clear hR kg hb
              go_wp2_with fail
              have kc := KG.out
              with_reducible refine kc.mono ?_
              clear kc
              rintro e w6 ⟨rfl, t6⟩
              have T6 := Lib.hid t6
              clear t6
              go_wp2_with (first | (refine bk_alloc T6.out rfl rfl ?_; intro g7 w7 h7; have T7 := Lib.hid h7; clear h7) | (refine bk_store T7.out 0 rfl rfl _ _ rfl rfl 0 0 false rfl ?_; intro w8 h8; have T8 := Lib.hid h8; clear h8 T7))
              exact ⟨⟨k + 1, hlt, by go_num, HR.out, T8.out.tail⟩, by simp [intOf]; omega⟩
            | some x =>
              rw [hb] at hR
              simp only at hR
              rw [hb, show bkV (some x) = .agg #[.int .i64 x.off, .int .i64 x.size, .bool x.used] from rfl, show errO (some x) = .nilIface from rfl] at kg
              have KG := Lib.hid kg
              clear kg hb
              by_cases hle : S ≤ x.size
              · have d4 : decide ((S : Int) ≤ (x.size : Int)) = true := decide_eq_true (by omega)
                rw [if_pos hle] at hR
                have HR := Lib.hid (show R = some O from hR)
                clear hR
                go_wp2_with fail
                have kc := KG.out
                with_reducible refine kc.mono ?_
                clear kc
                rintro e w6 ⟨rfl, t6⟩
                have T6 := Lib.hid t6
                clear t6
                go_wp2_with (first | (refine bk_alloc T6.out rfl rfl ?_; intro g7 w7 h7; have T7 := Lib.hid h7; clear h7) | (refine bk_store T7.out 0 rfl rfl _ _ rfl rfl x.off x.size x.used rfl ?_; intro w8 h8; have T8 := Lib.hid h8; clear h8 T7; have k1 : w8.cell? ⟨g7, 1, none⟩ = some (.int .i64 x.size) := (T8.out.row (i := 0) rfl).cell 1))
                go_ret2
                exact ⟨by rw [HR.out]; rfl, T8.out.tail.tail⟩
              · have d4 : decide ((S : Int) ≤ (x.size : Int)) = false := decide_eq_false (by omega)
                rw [if_neg hle] at hR
                have HR := Lib.hid hR
                clear hR
                go_wp2_with fail
                have kc := KG.out
                with_reducible refine kc.mono ?_
                clear kc
                rintro e w6 ⟨rfl, t6⟩
                have T6 := Lib.hid t6
                clear t6
                go_wp2_with (first | (refine bk_alloc T6.out rfl rfl ?_; intro g7 w7 h7; have T7 := Lib.hid h7; clear h7) | (refine bk_store T7.out 0 rfl rfl _ _ rfl rfl x.off x.size x.used rfl ?_; intro w8 h8; have T8 := Lib.hid h8; clear h8 T7; have k1 : w8.cell? ⟨g7, 1, none⟩ = some (.int .i64 x.size) := (T8.out.row (i := 0) rfl).cell 1))
                exact ⟨⟨k + 1, hlt, by go_num, HR.out, T8.out.tail⟩, by simp [intOf]; omega⟩
          · obtain rfl : k = L.length := by omega
            rw [List.drop_length] at hR
            have HR := Lib.hid (show R = findFrom b S f (c + 1) from hR); have HS := Lib.hid hS
            have d3 : decide ((L.length : Int) < (L.length : Int)) = false := decide_eq_false (by omega)
            clear hR hS
            go_wp2
            exact ⟨⟨f, c + 1, by go_num, by omega, HR.out, HS.out.tail⟩, by simp [intOf]; omega⟩
end
end Go.Proofs.Ytenbpbnffnodhaa

/- The reference's arena: its contracts. -/
namespace Go.Proofs.Ytenbpbnffnodhaa
open Go Go.RowKit Go.Own
set_option linter.unusedVariables false
set_option maxRecDepth 100000
section
variable {B : Nat} {w0 w : World} {l : List Ob} {i p : Nat} {A : Ar}
end
end Go.Proofs.Ytenbpbnffnodhaa

/- The reference's arena: Store, Copy, Fill, Grow, Widen. -/
namespace Go.Proofs.Ytenbpbnffnodhaa
open Go Go.RowKit Go.Own
set_option linter.unusedVariables false
set_option maxRecDepth 100000
section
variable {B : Nat} {w0 w : World} {l : List Ob} {i p : Nat} {A : Ar}
end
end Go.Proofs.Ytenbpbnffnodhaa

/- The example of layer 3's statements. -/
namespace Go.Proofs.Ytenbpbnffnodhaa
open Go Go.RowKit Go.Own
set_option linter.unusedVariables false
def lawOk (w : World) (e : Ending) (w' : World) : Prop := e = .returned (.bool true) ∧ Below w.heap.size w w'
end Go.Proofs.Ytenbpbnffnodhaa

/- Layer 3's deeds: what they are, and their helpers' contracts. -/
namespace Go.Own
open Go Go.RowKit
/-- A deed of layer 3. -/
structure De3 where
  what : Int
  addr : Int
  fr : Int
  n : Int
  v : Int
  x : UInt8
  ba : Option Addr
  bn : Nat
  bc : Nat
  b : List UInt8
def De3.cells (d : De3) : List Value := [.int .i64 d.what, .int .u64 d.addr, .int .u64 d.fr, .int .u64 d.n, .int .u64 d.v, .int .u8 (d.x.toNat : Nat), .slice d.ba d.bn d.bc]
structure De3.Ok (w : World) (d : De3) : Prop where
  what : -9223372036854775808 ≤ d.what ∧ d.what ≤ 9223372036854775807
  addr : 0 ≤ d.addr ∧ d.addr ≤ 18446744073709551615
  fr : 0 ≤ d.fr ∧ d.fr ≤ 18446744073709551615
  n : 0 ≤ d.n ∧ d.n ≤ 18446744073709551615
  v : 0 ≤ d.v ∧ d.v ≤ 18446744073709551615
  b : Bs w d.ba d.bn d.bc d.b
end Go.Own
namespace Go.Proofs.Ytenbpbnffnodhaa
open Go Go.RowKit Go.Own
set_option linter.unusedVariables false
set_option maxRecDepth 100000
end Go.Proofs.Ytenbpbnffnodhaa

/- The statements' Ints; the example of layer 10's statements. -/
namespace Go.Own
open Go Go.RowKit
end Go.Own
namespace Go.Proofs.Ytenbpbnffnodhaa
open Go Go.RowKit Go.Own
set_option linter.unusedVariables false
set_option maxRecDepth 100000
set_option maxHeartbeats 4000000 in
theorem law_Ints (w : World) (a : Option Addr) (c : Nat) (L : List Nat) (a2 : Option Addr) (c2 : Nat) (L2 : List Nat) (h1 : Sl w a L.length c 1 (L.map fun o => .int .i64 (o : Nat))) (h2 : Sl w a2 L2.length c2 1 (L2.map fun o => .int .i64 (o : Nat))) :
    Calls Try.prog 91 #[.slice a L.length c, .slice a2 L2.length c2] w fun e w' => e = .returned (.int .i64 (if L = L2 then 1 else 0)) ∧ Below w.heap.size w w' := by
  have p1 := h1.cap; have p2 := h1.room
  have q1 := h2.cap; have q2 := h2.room
  have H1 := Lib.hid h1; have H2 := Lib.hid h2
  clear h1 h2
  by_cases hl : L.length = L2.length
  · obtain ⟨R, hR⟩ : ∃ R : Int, R = (if L = L2 then 1 else 0) := ⟨_, rfl⟩
    rw [← hR]
    have HR := Lib.hid hR; have HLL := Lib.hid hl
    obtain ⟨N, hN⟩ : ∃ N, N = L.length := ⟨_, rfl⟩
    rw [← hl, ← hN]
    rw [← hN] at p1
    have HN := Lib.hid hN
    clear hR hl q1 hN
    go_enter Try.func91, Try.ntmps91
    go_wp2
    go_loopw [5] (fun vi wr => ∃ k : Nat, k ≤ N ∧ vi = .int .i64 k ∧ L.take k = L2.take k ∧ Below w.heap.size w wr) (fun vi _ => N - (intOf vi).toNat)
    case atStart => exact ⟨0, Nat.zero_le _, rfl, rfl, Below.refl _ _⟩
    case round =>
      obtain ⟨k, hk, rfl, ht, hb⟩ := hrel
      by_cases hlt : k < N
      · have l1 : k < L.length := by rw [← HN.out]; exact hlt
        have l2 : k < L2.length := by rw [← HLL.out]; exact l1
        obtain ⟨b1, o1, rfl, r1⟩ := H1.out.cells k (.int .i64 (L[k] : Nat)) (by simp [l1])
        obtain ⟨b2, o2, rfl, r2⟩ := H2.out.cells k (.int .i64 (L2[k] : Nat)) (by simp [l2])
        have hx : L[k] = L2[k] ↔ L.take (k + 1) = L2.take (k + 1) := by
          rw [List.take_succ_eq_append_getElem l1, List.take_succ_eq_append_getElem l2, ht]
          constructor
          · intro h; rw [h]
          · intro h; exact List.singleton_inj.1 (List.append_cancel_left h)
        have hne : L[k] ≠ L2[k] → L ≠ L2 := fun h e => by subst e; exact h rfl
        generalize L[k] = x at *
        generalize L2[k] = y at *
        have kd := (Keep.of_below (F := fun _ => False) hb).drew
        have X0 := Lib.hid (mid_keep kd r1 (fun h => h)); have Y0 := Lib.hid (mid_keep kd r2 (fun h => h))
        have HB := Lib.hid hb; have HX := Lib.hid hx; have HNE := Lib.hid hne
        clear r1 r2 hx hne hb ht kd l1 l2
        by_cases hxy : x = y
        · subst hxy
          have HT := Lib.hid (HX.out.1 rfl)
          go_wp2
          refine flowe_begin (F := fun _ => False) hmixed 9 rfl (by repeat (first | with_reducible refine ps_then ?_ | with_reducible refine ps_block ?_ | with_reducible exact ps_body | refine ps_then ?_ | refine ps_block ?_ | exact ps_body)) (fun hps => ?_)
          simp only [List.replicate]
          have kk := (Keep.refl (fun _ => False) (wr)).drew
          refine flowe_take 0 (v := ?_) (a' := ?_) hps rfl (by kernel_rfl) rfl ?_ ?_ ?_
          rotate_left 2
          · intro w' hk; go_simp; try rfl
          · simp only [Act.put, List.setIfInBounds_toArray, List.set_cons_succ, List.set_cons_zero]; try rfl
          refine flowe_take 1 (v := ?_) (a' := ?_) hps rfl (by kernel_rfl) rfl ?_ ?_ ?_
          rotate_left 2
          · intro w' hk; go_simp; try rfl
          · simp only [Act.put, List.setIfInBounds_toArray, List.set_cons_succ, List.set_cons_zero]; try rfl
          refine flowe_take 2 (v := ?_) (a' := ?_) hps rfl (by kernel_rfl) rfl ?_ ?_ ?_
          rotate_left 2
          · intro w' hk; go_simp; try rfl
          · simp only [Act.put, List.setIfInBounds_toArray, List.set_cons_succ, List.set_cons_zero]; try rfl
          refine flowe_take 3 (v := ?_) (a' := ?_) hps rfl (by kernel_rfl) rfl ?_ ?_ ?_
          rotate_left 2
          · intro w' hk; have c0 := mid_keep hk X0.out (fun h => h); go_simp; try rfl
          · simp only [Act.put, List.setIfInBounds_toArray, List.set_cons_succ, List.set_cons_zero]; try rfl
          refine flowe_take 4 (v := ?_) (a' := ?_) hps rfl (by kernel_rfl) rfl ?_ ?_ ?_
          rotate_left 2
          · intro w' hk; go_simp; try rfl
          · simp only [Act.put, List.setIfInBounds_toArray, List.set_cons_succ, List.set_cons_zero]; try rfl
          refine flowe_take 5 (v := ?_) (a' := ?_) hps rfl (by kernel_rfl) rfl ?_ ?_ ?_
          rotate_left 2
          · intro w' hk; go_simp; try rfl
          · simp only [Act.put, List.setIfInBounds_toArray, List.set_cons_succ, List.set_cons_zero]; try rfl
          refine flowe_take 6 (v := ?_) (a' := ?_) hps rfl (by kernel_rfl) rfl ?_ ?_ ?_
          rotate_left 2
          · intro w' hk; go_simp; try rfl
          · simp only [Act.put, List.setIfInBounds_toArray, List.set_cons_succ, List.set_cons_zero]; try rfl
          refine flowe_take 7 (v := ?_) (a' := ?_) hps rfl (by kernel_rfl) rfl ?_ ?_ ?_
          rotate_left 2
          · intro w' hk; have c0 := mid_keep hk Y0.out (fun h => h); go_simp; try rfl
          · simp only [Act.put, List.setIfInBounds_toArray, List.set_cons_succ, List.set_cons_zero]; try rfl
          refine flowe_take 8 (v := ?_) (a' := ?_) hps rfl (by kernel_rfl) rfl ?_ ?_ ?_
          rotate_left 2
          · intro w' hk; go_simp; try rfl
          · simp only [Act.put, List.setIfInBounds_toArray, List.set_cons_succ, List.set_cons_zero]; try rfl
          refine flowe_done hps (by kernel_rfl) ?_
          have HB2 := Lib.hid (HB.out.trans ((kk.below (Nat.le_refl _) fun _ _ h => h).mono HB.out.size))
          clear kk
          go_wp2
          exact ⟨⟨k + 1, hlt, by go_num, HT.out, HB2.out⟩, by simp [intOf]; omega⟩
        · have HXY := Lib.hid hxy
          have d1 : ((x : Int) != (y : Int)) = true := by rw [bne_iff_ne]; omega
          go_wp2
          refine flowe_begin (F := fun _ => False) hmixed 9 rfl (by repeat (first | with_reducible refine ps_then ?_ | with_reducible refine ps_block ?_ | with_reducible exact ps_body | refine ps_then ?_ | refine ps_block ?_ | exact ps_body)) (fun hps => ?_)
          simp only [List.replicate]
          have kk := (Keep.refl (fun _ => False) (wr)).drew
          refine flowe_take 0 (v := ?_) (a' := ?_) hps rfl (by kernel_rfl) rfl ?_ ?_ ?_
          rotate_left 2
          · intro w' hk; go_simp; try rfl
          · simp only [Act.put, List.setIfInBounds_toArray, List.set_cons_succ, List.set_cons_zero]; try rfl
          refine flowe_take 1 (v := ?_) (a' := ?_) hps rfl (by kernel_rfl) rfl ?_ ?_ ?_
          rotate_left 2
          · intro w' hk; go_simp; try rfl
          · simp only [Act.put, List.setIfInBounds_toArray, List.set_cons_succ, List.set_cons_zero]; try rfl
          refine flowe_take 2 (v := ?_) (a' := ?_) hps rfl (by kernel_rfl) rfl ?_ ?_ ?_
          rotate_left 2
          · intro w' hk; go_simp; try rfl
          · simp only [Act.put, List.setIfInBounds_toArray, List.set_cons_succ, List.set_cons_zero]; try rfl
          refine flowe_take 3 (v := ?_) (a' := ?_) hps rfl (by kernel_rfl) rfl ?_ ?_ ?_
          rotate_left 2
          · intro w' hk; have c0 := mid_keep hk X0.out (fun h => h); go_simp; try rfl
          · simp only [Act.put, List.setIfInBounds_toArray, List.set_cons_succ, List.set_cons_zero]; try rfl
          refine flowe_take 4 (v := ?_) (a' := ?_) hps rfl (by kernel_rfl) rfl ?_ ?_ ?_
          rotate_left 2
          · intro w' hk; go_simp; try rfl
          · simp only [Act.put, List.setIfInBounds_toArray, List.set_cons_succ, List.set_cons_zero]; try rfl
          refine flowe_take 5 (v := ?_) (a' := ?_) hps rfl (by kernel_rfl) rfl ?_ ?_ ?_
          rotate_left 2
          · intro w' hk; go_simp; try rfl
          · simp only [Act.put, List.setIfInBounds_toArray, List.set_cons_succ, List.set_cons_zero]; try rfl
          refine flowe_take 6 (v := ?_) (a' := ?_) hps rfl (by kernel_rfl) rfl ?_ ?_ ?_
          rotate_left 2
          · intro w' hk; go_simp; try rfl
          · simp only [Act.put, List.setIfInBounds_toArray, List.set_cons_succ, List.set_cons_zero]; try rfl
          refine flowe_take 7 (v := ?_) (a' := ?_) hps rfl (by kernel_rfl) rfl ?_ ?_ ?_
          rotate_left 2
          · intro w' hk; have c0 := mid_keep hk Y0.out (fun h => h); go_simp; try rfl
          · simp only [Act.put, List.setIfInBounds_toArray, List.set_cons_succ, List.set_cons_zero]; try rfl
          refine flowe_take 8 (v := ?_) (a' := ?_) hps rfl (by kernel_rfl) rfl ?_ ?_ ?_
          rotate_left 2
          · intro w' hk; go_simp; try rfl
          · simp only [Act.put, List.setIfInBounds_toArray, List.set_cons_succ, List.set_cons_zero]; try rfl
          refine flowe_done hps (by kernel_rfl) ?_
          have HB2 := Lib.hid (HB.out.trans ((kk.below (Nat.le_refl _) fun _ _ h => h).mono HB.out.size))
          clear kk
          go_wp2
          go_ret
          exact ⟨by rw [HR.out, if_neg (HNE.out HXY.out)]; rfl, HB2.out⟩
      · have hkN : k = N := by omega
        subst hkN
        have hLL : L = L2 := by
          rw [List.take_of_length_le (by rw [HN.out]; exact Nat.le_refl _), List.take_of_length_le (by rw [HN.out, HLL.out]; exact Nat.le_refl _)] at ht
          exact ht
        have HB := Lib.hid hb; have HE := Lib.hid hLL
        clear ht hb hLL
        go_wp2
        go_ret
        refine ⟨?_, HB.out⟩
        rw [HR.out, if_pos HE.out]
        rfl
  · have hne : L ≠ L2 := fun h => hl (by rw [h])
    rw [if_neg hne]
    have h3 : ¬ (L.length : Int) = (L2.length : Int) := by omega
    clear hl
    go_enter Try.func91, Try.ntmps91
    go_wp2
    go_ret
    exact ⟨rfl, Below.refl _ _⟩
end Go.Proofs.Ytenbpbnffnodhaa

/- Lists of free blocks of bytes: the reference's Put and what it calls. -/
namespace Go.Own
open Go Go.RowKit
section
variable {B : Nat} {w0 w : World} {l : List Ob}
end
end Go.Own
namespace Go.Proofs.Ytenbpbnffnodhaa
open Go Go.RowKit Go.Own
set_option linter.unusedVariables false
set_option maxRecDepth 100000
section
variable {B : Nat} {w0 w : World} {l : List Ob} {i n cp : Nat} {a : Option Addr} {b : List UInt8}
end
end Go.Proofs.Ytenbpbnffnodhaa

/- Lists of free blocks of bytes: the reference's Put, All, in. -/
namespace Go.Own
open Go Go.RowKit
theorem St.drop2 {B : Nat} {w0 w : World} {l : List Ob} {P Q : Ob} (h : St B w0 w (P :: Q :: l)) : St B w0 w (P :: l) := h.sub (List.Sublist.cons_cons _ (List.sublist_cons_self ..))
end Go.Own
namespace Go.Proofs.Ytenbpbnffnodhaa
open Go Go.RowKit Go.Own
set_option linter.unusedVariables false
set_option maxRecDepth 100000
section
variable {B : Nat} {w0 w : World} {l : List Ob} {i n cp : Nat} {a : Option Addr} {b : List UInt8}
end
end Go.Proofs.Ytenbpbnffnodhaa

/- Layer 9's statements: the bytes of an arena, of what is laid. -/
namespace Go.Own
open Go Go.RowKit
/-- What is laid. -/
structure Ly where
  what : Int
  at_ : Int
  v : Int
def Ly.cells (d : Ly) : List Value := [.int .i64 d.what, .int .i64 d.at_, .int .u64 d.v]
structure Ly.Ok (d : Ly) : Prop where
  what : -9223372036854775808 ≤ d.what ∧ d.what ≤ 9223372036854775807
  at_ : -9223372036854775808 ≤ d.at_ ∧ d.at_ ≤ 9223372036854775807
  v : 0 ≤ d.v ∧ d.v ≤ 18446744073709551615
/-- What lay below B reads as it did: a row of cells. -/
theorem St.argSl {w0 w : World} {l : List Ob} (h : St w0.heap.size w0 w l) {a : Option Addr} {n c z : Nat} {vs : List Value} (hs : Sl w0 a n c z vs) : Sl w a n c z vs where
  len := hs.len
  cap := hs.cap
  room := hs.room
  nilcap := hs.nilcap
  cells := fun i v hi => by
    obtain ⟨b, o, e, hc⟩ := hs.cells i v hi
    exact ⟨b, o, e, h.argCell hc⟩
end Go.Own
namespace Go.Proofs.Ytenbpbnffnodhaa
open Go Go.RowKit Go.Own
set_option linter.unusedVariables false
set_option maxRecDepth 100000
section
variable {B : Nat} {w0 w : World} {l : List Ob}
section
variable {ops : Array Oper} {rest : List Oper} {o : Oper} {a : Act} {Q : Exit → Act → World → Prop}
end
end
end Go.Proofs.Ytenbpbnffnodhaa

/- Whether an arena's bytes are right, in plain words. No program. -/
namespace Go.Own
/-- No two free blocks stand next to each other. -/
def Apart : List Blk → Prop
  | [] => True
  | x :: r => (∀ y, r.head? = some y → x.used = true ∨ y.used = true) ∧ Apart r
theorem Apart.append : ∀ {l1 l2 : List Blk}, Apart (l1 ++ l2) ↔ Apart l1 ∧ Apart l2 ∧ ∀ x y, l1.getLast? = some x → l2.head? = some y → x.used = true ∨ y.used = true
  | [], l2 => by simp [Apart]
  | [x], l2 => by
    simp only [List.cons_append, List.nil_append, Apart, List.getLast?_singleton, Option.some.injEq, List.head?_nil]
    constructor
    · intro h; exact ⟨⟨fun _ h => by simp at h, trivial⟩, h.2, fun a y e hy => e ▸ h.1 y hy⟩
    · intro h; exact ⟨fun y hy => h.2.2 x y rfl hy, h.2.1⟩
  | x :: z :: l1, l2 => by
    have ih := Apart.append (l1 := z :: l1) (l2 := l2)
    simp only [List.cons_append] at ih ⊢
    rw [Apart, ih, Apart, List.getLast?_cons_cons]
    simp only [List.head?_cons]
    constructor
    · rintro ⟨h1, h2, h3, h4⟩; exact ⟨⟨h1, h2⟩, h3, h4⟩
    · rintro ⟨⟨h1, h2⟩, h3, h4⟩; exact ⟨h1, h2, h3, h4⟩
theorem Apart.snoc {l : List Blk} {x : Blk} : Apart (l ++ [x]) ↔ Apart l ∧ ∀ y, l.getLast? = some y → y.used = true ∨ x.used = true := by
  rw [Apart.append]
  simp only [Apart, List.head?_nil, List.head?_cons, Option.some.injEq]
  constructor
  · rintro ⟨h1, _, h3⟩; exact ⟨h1, fun y hy => h3 y x hy rfl⟩
  · rintro ⟨h1, h3⟩; exact ⟨h1, ⟨fun _ h => (by cases h), trivial⟩, fun y z hy hz => hz ▸ h3 y hy⟩
theorem Apart.take {l : List Blk} (h : Apart l) (k : Nat) : Apart (l.take k) := by
  rw [← List.take_append_drop k l] at h
  exact (Apart.append.1 h).1
theorem take_last {α : Type} {l : List α} {k : Nat} (hk : k < l.length) : (l.take (k + 1)).getLast? = some l[k] := by
  rw [List.take_succ_eq_append_getElem hk, List.getLast?_concat]
/-- The next one: no free one behind a free one. -/
theorem Apart.step {l : List Blk} {k : Nat} (hk : k < l.length) (h : Apart (l.take k)) (hn : ∀ j, k = j + 1 → ∀ hj : j < l.length, l[j].used = true ∨ l[k].used = true) : Apart (l.take (k + 1)) := by
  rw [List.take_succ_eq_append_getElem hk]
  refine Apart.snoc.2 ⟨h, fun y hy => ?_⟩
  cases k with
  | zero => simp at hy
  | succ j =>
    rw [take_last (by omega)] at hy
    cases hy
    exact hn j rfl (by omega)
theorem Apart.not {l : List Blk} {k : Nat} (hk : k + 1 < l.length) (h1 : l[k].used = false) (h2 : l[k + 1].used = false) : ¬ Apart l := by
  intro h
  have h := h.take (k + 2)
  rw [List.take_succ_eq_append_getElem hk] at h
  have := (Apart.snoc.1 h).2 _ (take_last (by omega))
  rw [h1, h2] at this
  simp at this
/-- An arena that Check finds right. -/
def IsRight (b : List UInt8) : Prop := ∃ bs ls, Right b bs ls ∧ Apart bs
theorem Right.walk {b : List UInt8} {bs : List Blk} {ls : Nat → List Nat} (h : Right b bs ls) : walkB b = some bs := (walkB_tile b bs).2 ⟨h.len, tile_to.2 h.tile⟩
theorem Right.all {b : List UInt8} {bs : List Blk} {ls : Nat → List Nat} (h : Right b bs ls) {c : Nat} (hc : c < 22) : allB b c = some (ls c) := h.lists.all h.good h.len h.max hc
theorem memberB_some {b : List UInt8} {o c : Nat} (h : memberB b o c = true) : ∃ x, blkAt b o = some x ∧ x.off = o ∧ x.used = false ∧ cls x.size = c := by
  unfold memberB at h
  cases hb : blkAt b o with
  | none => rw [hb] at h; cases h
  | some x =>
    rw [hb] at h
    simp only [Bool.and_eq_true, Bool.not_eq_true', decide_eq_true_eq] at h
    exact ⟨x, rfl, (blkAt_some hb).1, h.1, h.2⟩
theorem allFrom_inv {b : List UInt8} {c : Nat} : ∀ (f at_ last : Nat) (l : List Nat), allFrom b c f at_ last = some l → (∃ z, Seg b last at_ l z 0) ∧ (∀ o ∈ l, o ≠ 0 ∧ memberB b o c = true) ∧ l.length ≤ f
  | 0, at_, last, l, h => by
    unfold allFrom at h
    split at h
    · rename_i h0; cases h; exact ⟨⟨last, rfl, h0.symm⟩, fun o ho => (by cases ho), Nat.le_refl _⟩
    · cases h
  | f + 1, at_, last, l, h => by
    unfold allFrom at h
    split at h
    · rename_i h0; cases h; exact ⟨⟨last, rfl, h0.symm⟩, fun o ho => (by cases ho), Nat.zero_le _⟩
    · rename_i h0
      split at h
      · cases h
      · rename_i h1
        simp only [not_or, Bool.not_eq_false, Decidable.not_not] at h1
        cases hr : allFrom b c f (numAt b (at_ + 8)) at_ with
        | none => rw [hr] at h; cases h
        | some r =>
          rw [hr] at h
          cases h
          obtain ⟨⟨z, i1⟩, i2, i3⟩ := allFrom_inv f _ _ r hr
          exact ⟨⟨z, rfl, h1.2, i1⟩, fun o ho => by
            rcases List.mem_cons.1 ho with rfl | ho
            · exact ⟨h0, h1.1⟩
            · exact i2 o ho, by simpa using i3⟩
theorem allB_inv {b : List UInt8} {c : Nat} {l : List Nat} (h : allB b c = some l) : 184 ≤ b.length ∧ bitAt (numAt b 0) c = decide (l ≠ []) ∧ (∃ z, Seg b 0 (numAt b (headO c)) l z 0) ∧ ∀ o ∈ l, o ≠ 0 ∧ memberB b o c = true := by
  unfold allB at h
  split at h
  · cases h
  · split at h
    · cases h
    · rename_i h1 h2
      obtain ⟨⟨z, i1⟩, i2, _⟩ := allFrom_inv _ _ _ _ h
      refine ⟨by omega, ?_, ⟨z, i1⟩, i2⟩
      have h2 : bitAt (numAt b 0) c = decide (numAt b (headO c) ≠ 0) := by
        cases hq : bitAt (numAt b 0) c <;> cases hr : decide (numAt b (headO c) ≠ 0) <;> simp_all
      rw [h2]
      cases l with
      | nil => have := i1.2; simp [← this]
      | cons o r => have := i1.1; have h0 := (i2 o (List.mem_cons_self ..)).1; simp [this, h0]
/-- What Check looks at makes an arena right. -/
theorem right_mk {b : List UInt8} {bs : List Blk} {ls : Nat → List Nat} (hm : b.length ≤ 16384) (hw : walkB b = some bs) (h0 : numAt b 0 < 4194304) (ha : ∀ c, c < 22 → allB b c = some (ls c))
    (hin : ∀ c, c < 22 → ∀ o ∈ ls c, ∃ x ∈ bs, x.off = o ∧ x.used = false) (hnd : ∀ c, c < 22 → (ls c).Nodup) (hc : ∀ y ∈ bs, y.used = false → y.off ∈ ls (clsN y.size)) : Right b bs ls := by
  obtain ⟨hlen, ht⟩ := (walkB_tile b bs).1 hw
  refine ⟨hm, tile_to.1 ht, ⟨h0, fun c hc => (allB_inv (ha c hc)).2.1, fun c hc => (allB_inv (ha c hc)).2.2.1, fun c hc o ho => ?_, hnd⟩, hc⟩
  obtain ⟨x, hx, rfl, hu⟩ := hin c hc o ho
  obtain ⟨y, hy, _, _, hcl⟩ := memberB_some ((allB_inv (ha c hc)).2.2.2 _ ho).2
  have := (ht.mem hx).2.1
  rw [hy] at this
  cases this
  exact ⟨x, hx, rfl, hu, hcl⟩
theorem walk_len {b : List UInt8} {L : List Blk} (h : walkB b = some L) (hm : b.length ≤ 16384) : L.length ≤ 16384 := by
  obtain ⟨hlen, ht⟩ := (walkB_tile b L).1 h
  have := nodup_len b.length (L.map (·.off)) (List.Pairwise.map _ (fun _ _ h => h) ht.offs) fun x hx => by
    obtain ⟨y, hy, rfl⟩ := List.mem_map.1 hx
    have := ht.mem hy; have := blkAt_some this.2.1; omega
  rw [List.length_map] at this; omega
theorem isTag_head {w : Nat} (h : w = 0 ∨ w % 16 = 8) : isTag w = false := by
  cases ht : isTag w with
  | false => rfl
  | true =>
    exfalso
    unfold isTag at ht
    rw [isSize_iff] at ht
    omega
/-! ### The program's way: the free blocks, by place and class, struck out one by one -/
def freeOf (bs : List Blk) : List Blk := bs.filter fun x => !x.used
theorem mem_freeOf {bs : List Blk} {x : Blk} : x ∈ freeOf bs ↔ x ∈ bs ∧ x.used = false := by unfold freeOf; rw [List.mem_filter]; simp
def keyOf' (x : Blk) : Nat × Nat := (x.off, clsN x.size)
/-- What is left of the free blocks once the classes below c are done, and of class c those of l. -/
def leftK (bs : List Blk) (ls : Nat → List Nat) (c : Nat) (l : List Nat) : List (Nat × Nat) := ((freeOf bs).map keyOf').filter fun q => !(decide (q.2 < c) && decide (q.1 ∈ ls q.2)) && !(decide (q.2 = c) && decide (q.1 ∈ l))
theorem mem_leftK {bs : List Blk} {ls : Nat → List Nat} {c : Nat} {l : List Nat} {q : Nat × Nat} : q ∈ leftK bs ls c l ↔ (∃ x ∈ bs, x.used = false ∧ keyOf' x = q) ∧ ¬ (q.2 < c ∧ q.1 ∈ ls q.2) ∧ ¬ (q.2 = c ∧ q.1 ∈ l) := by
  unfold leftK
  rw [List.mem_filter, List.mem_map]
  simp only [mem_freeOf, Bool.and_eq_true, Bool.not_eq_true', Bool.and_eq_false_imp, decide_eq_true_eq, decide_eq_false_iff_not, not_and, and_assoc]
theorem leftK_start {bs : List Blk} {ls : Nat → List Nat} : leftK bs ls 0 [] = (freeOf bs).map keyOf' := by
  unfold leftK
  rw [List.filter_eq_self]
  intro q _
  simp
theorem leftK_next {bs : List Blk} {ls : Nat → List Nat} {c : Nat} : leftK bs ls c (ls c) = leftK bs ls (c + 1) [] := by
  unfold leftK
  congr 1
  funext q
  by_cases h : q.2 = c
  · subst h; simp
  · have : decide (q.2 < c + 1) = decide (q.2 < c) := by
      by_cases h2 : q.2 < c
      · rw [decide_eq_true h2, decide_eq_true (by omega)]
      · rw [decide_eq_false h2, decide_eq_false (by omega)]
    rw [this]; simp [h]
theorem leftK_congr {bs : List Blk} {ls ls' : Nat → List Nat} {c : Nat} {l : List Nat} (h : ∀ d, d < c → ls d = ls' d) : leftK bs ls c l = leftK bs ls' c l := by
  unfold leftK
  congr 1
  funext q
  by_cases hq : q.2 < c
  · rw [h q.2 hq]
  · rw [decide_eq_false hq]; rfl
theorem leftK_nodup {b : List UInt8} {bs : List Blk} {ls : Nat → List Nat} {c : Nat} {l : List Nat} (ht : Tile b 184 bs) : (leftK bs ls c l).Nodup := by
  unfold leftK freeOf
  refine List.Pairwise.filter _ (List.Pairwise.map keyOf' (fun x y h => ?_) (List.Pairwise.filter _ ht.offs))
  intro e
  exact h (congrArg Prod.fst e)
theorem leftK_erase {b : List UInt8} {bs : List Blk} {ls : Nat → List Nat} {c o : Nat} {l : List Nat} (ht : Tile b 184 bs) : (leftK bs ls c l).filter (· ≠ (o, c)) = leftK bs ls c (l ++ [o]) := by
  unfold leftK
  rw [List.filter_filter]
  congr 1
  funext q
  obtain ⟨p, d⟩ := q
  by_cases h1 : d = c
  · subst h1
    by_cases h2 : p = o
    · subst h2; simp
    · simp [h2]
  · simp [h1]
/-- An arena that is right leaves nothing; each one of its lists is struck out. -/
theorem Right.left {b : List UInt8} {bs : List Blk} {ls : Nat → List Nat} (h : Right b bs ls) {c : Nat} (hc : c < 22) {k : Nat} (hk : k < (ls c).length) : ((ls c)[k], c) ∈ leftK bs ls c ((ls c).take k) := by
  obtain ⟨x, hx, h1, h2, h3⟩ := h.lists.mem c hc _ (List.getElem_mem hk)
  refine mem_leftK.2 ⟨⟨x, hx, h2, by unfold keyOf'; rw [h1]; unfold clsN; rw [h3]; rfl⟩, fun h => Nat.lt_irrefl _ h.1, fun h4 => ?_⟩
  obtain ⟨j, hj, he⟩ := List.mem_iff_getElem.1 h4.2
  rw [List.length_take] at hj
  rw [List.getElem_take] at he
  exact (List.pairwise_iff_getElem.1 (h.lists.nodup c hc)) j k (by omega) hk (by omega) he
theorem Right.leftNil {b : List UInt8} {bs : List Blk} {ls : Nat → List Nat} (h : Right b bs ls) : leftK bs ls 22 [] = [] := by
  rw [List.eq_nil_iff_forall_not_mem]
  intro q hq
  obtain ⟨⟨x, hx, h1, rfl⟩, h3, _⟩ := mem_leftK.1 hq
  exact h3 ⟨(clsN_lt (h.good.mem hx).2.1).1, h.cover x hx h1⟩
/-- The lists that were struck out, and nothing left: the arena is right. -/
theorem right_struck {b : List UInt8} {bs : List Blk} {ls : Nat → List Nat} (hm : b.length ≤ 16384) (hw : walkB b = some bs) (h0 : numAt b 0 < 4194304) (ha : ∀ c, c < 22 → allB b c = some (ls c))
    (hin : ∀ c, c < 22 → ∀ k, (hk : k < (ls c).length) → ((ls c)[k], c) ∈ leftK bs ls c ((ls c).take k)) (hn : leftK bs ls 22 [] = []) : Right b bs ls := by
  obtain ⟨hlen, ht⟩ := (walkB_tile b bs).1 hw
  refine right_mk hm hw h0 ha (fun c hc o ho => ?_) (fun c hc => ?_) fun y hy hu => ?_
  · obtain ⟨k, hk, rfl⟩ := List.mem_iff_getElem.1 ho
    obtain ⟨⟨x, hx, h1, h2⟩, _⟩ := mem_leftK.1 (hin c hc k hk)
    exact ⟨x, hx, congrArg Prod.fst h2, h1⟩
  · refine List.pairwise_iff_getElem.2 fun i j hi hj hij e => ?_
    have := (mem_leftK.1 (hin c hc j hj)).2.2
    refine this ⟨rfl, ?_⟩
    rw [← e]
    exact List.mem_iff_getElem.2 ⟨i, by rw [List.length_take]; omega, by rw [List.getElem_take]⟩
  · have hcy := clsN_lt (ht.mem hy).2.1
    exact Classical.byContradiction fun hne => (List.eq_nil_iff_forall_not_mem.1 hn (keyOf' y)) (mem_leftK.2 ⟨⟨y, hy, hu, rfl⟩, fun h1 => hne h1.2, fun h => by cases h.2⟩)
end Go.Own

/- Lists of free blocks of bytes: the reference's Find and Rebuild. -/
namespace Go.Proofs.Ytenbpbnffnodhaa
open Go Go.RowKit Go.Own
set_option linter.unusedVariables false
set_option maxRecDepth 100000
section
variable {B : Nat} {w0 w : World} {l : List Ob} {i n cp : Nat} {a : Option Addr} {b : List UInt8}
end
end Go.Proofs.Ytenbpbnffnodhaa

/- Is an arena right: the reference's Check. -/
namespace Go.Own
open Go Go.RowKit
end Go.Own
namespace Go.Proofs.Ytenbpbnffnodhaa
open Go Go.RowKit Go.Own
set_option linter.unusedVariables false
set_option maxRecDepth 100000
section
variable {B : Nat} {w0 w : World} {l : List Ob} {i n cp : Nat} {a : Option Addr} {b : List UInt8}
theorem ints_at (h : St B w0 w l) {i : Nat} {a : Option Addr} {c : Nat} {n : Nat} {L : List Nat} (hi : l[i]? = some (IntsO (.slice a n c) L)) (k : Nat) (hk : k < L.length) : ∃ b o, a = some ⟨b, o, none⟩ ∧ w.cell? ⟨b, o + k, none⟩ = some (.int .i64 (L[k] : Nat)) := by
  obtain ⟨a5, c5, e5, hs5⟩ := ints_slice h hi
  cases e5
  exact Sl.cells hs5 k (.int .i64 (L[k] : Nat)) (by simp [hk])
/-- What Check tells. -/
def ChkR (b : List UInt8) (r : Bool) : Prop := r = true ↔ IsRight b
theorem chk_no {b : List UInt8} (h : ¬ IsRight b) : ChkR b false := ⟨fun e => (by cases e), fun e => absurd e h⟩
theorem chk_yes {b : List UInt8} (h : IsRight b) : ChkR b true := ⟨fun _ => h, fun _ => rfl⟩
end
end Go.Proofs.Ytenbpbnffnodhaa

/- The example of layer 7's statements. -/
namespace Go.Own
end Go.Own
namespace Go.Proofs.Ytenbpbnffnodhaa
open Go Go.RowKit Go.Own
set_option linter.unusedVariables false
set_option maxRecDepth 100000
end Go.Proofs.Ytenbpbnffnodhaa

/- Layer 7: the program and the reference tell the same of blocks. -/
namespace Go.Own
open Go Go.RowKit
end Go.Own
namespace Go.Proofs.Ytenbpbnffnodhaa
open Go Go.RowKit Go.Own
set_option linter.unusedVariables false
set_option maxRecDepth 100000
end Go.Proofs.Ytenbpbnffnodhaa

/- Layer 10: what Find and Rebuild tell, of an arena of any bytes. -/
namespace Go.Own
end Go.Own
namespace Go.Proofs.Ytenbpbnffnodhaa
open Go Go.RowKit Go.Own
set_option linter.unusedVariables false
set_option maxRecDepth 100000
end Go.Proofs.Ytenbpbnffnodhaa

/- A map whose keys are places (two numbers), each told true: rules for walks. -/
namespace Go.Own
open Go Go.WideMaps
theorem key_gen (P : Program) (k t : TypeId) (fs : Array Field) (hu : P.underlying k = some (.struct fs)) (ht : P.underlying t = some (.int .i64)) (hk : P.keyType k = true) (hc : P.cellsOf k = 2) (hct : P.cellsOf t = 1) (hsz : ∃ n, P.types.size = n + 1)
    (f1 f2 : Field) (hfs : fs = #[f1, f2]) (ht1 : f1.type = t) (ht2 : f2.type = t) (ho1 : f1.offset = 0) (ho2 : f2.offset = 1) (hname : #[f1, f2].all (·.name != "_") = true) (a b : Int) (wa : (Lit.int .i64 a).wf = true) (wb : (Lit.int .i64 b).wf = true) :
    ∃ kl, keyOf P k (.agg #[.int .i64 a, .int .i64 b]) = some kl := by
  obtain ⟨n, hn⟩ := hsz
  subst hfs
  refine ⟨.string (keyBytes [.int .i64 a, .int .i64 b]), ?_⟩
  unfold keyOf
  rw [hu]
  have e1 : ∀ x : Int, (Lit.int .i64 x).wf = true → P.keyLits (n + 1) t [.int .i64 x] = some [.int .i64 x] := fun x hx => by
    unfold Program.keyLits; rw [ht]; simp [hx]
  have e2 : P.keyLits (n + 2) k [.int .i64 a, .int .i64 b] = some [.int .i64 a, .int .i64 b] := by
    unfold Program.keyLits
    rw [hu]
    simp only [hc, List.length_cons, List.length_nil, hname, ht1, ht2, ho1, ho2, hct, List.drop_zero, List.take_succ_cons, List.take_zero, List.drop_succ_cons, List.mapM_cons, List.mapM_nil, e1 a wa, e1 b wb, and_self, if_true]
    rfl
  simp only [hk, Value.formed, hu, hc, hn, Value.cells, e2]
  rfl
end Go.Own
namespace Go.Proofs.Ytenbpbnffnodhaa
open Go Go.RowKit Go.Own Go.WideMaps
open Go.ChangeMaps (setBlock heap_setBlock_same heap_setBlock_other)
set_option linter.unusedVariables false
set_option maxRecDepth 100000
abbrev plT : TypeId := 237
abbrev mpT : TypeId := 232
theorem pl_row : (plT : TypeId) < Try.prog.types.size := of_decide_eq_true (by kernel_rfl)
theorem pl_wide : (match Try.prog.underlying plT with | some (.array _ _) | some (.struct _) => true | _ => false) = true := by kernel_rfl
theorem pl_law : KeyLaw Try.prog plT := deep_law_laid Facts.laidOut (m := 2) (by omega) pl_row (by kernel_rfl) pl_wide
def keyV (q : Nat × Nat) : Value := .agg #[.int .i64 (q.1 : Nat), .int .i64 (q.2 : Nat)]
theorem keyV_inj {p q : Nat × Nat} (h : keyV p = keyV q) : p = q := by
  unfold keyV at h
  simp only [Value.agg.injEq, Array.mk.injEq, List.cons.injEq, Value.int.injEq, true_and, and_true] at h
  exact Prod.ext (by omega) (by omega)
theorem pl_cells : Try.prog.cellsOf plT = 2 := by kernel_rfl
theorem int_cells : Try.prog.cellsOf 3 = 1 := by kernel_rfl
theorem pl_keyT : Try.prog.keyType plT = true := by kernel_rfl
theorem pl_sz : ∃ n, Try.prog.types.size = n + 1 := ⟨Try.prog.types.size - 1, (Nat.sub_add_cancel (Nat.lt_of_le_of_lt (Nat.zero_le _) pl_row)).symm⟩
theorem key_of (q : Nat × Nat) (h1 : q.1 ≤ 65536) (h2 : q.2 ≤ 65536) : ∃ kl, keyOf Try.prog plT (keyV q) = some kl := by
  have w1 : (Lit.int .i64 (q.1 : Nat)).wf = true := by simp [Lit.wf, IntKind.min, IntKind.max, IntKind.bits, IntKind.signed]; omega
  have w2 : (Lit.int .i64 (q.2 : Nat)).wf = true := by simp [Lit.wf, IntKind.min, IntKind.max, IntKind.bits, IntKind.signed]; omega
  exact key_gen Try.prog plT 3 _ Try.underlying237 Try.underlying3 pl_keyT pl_cells int_cells pl_sz _ _ rfl rfl rfl rfl rfl (by kernel_rfl) _ _ w1 w2
/-- Block b is a map with these keys, each with the value true. -/
def MpAt (w : World) (b : Nat) (ks : List (Nat × Nat)) : Prop := ∃ es clock, w.heap[b]? = some (.map es clock) ∧ es.toList.map (fun e => (e.key, e.val)) = ks.map (fun q => (keyV q, Value.bool true)) ∧ ∀ q ∈ ks, q.1 ≤ 65536 ∧ q.2 ≤ 65536
section
variable {w : World} {b : Nat} {ks : List (Nat × Nat)} {q : Nat × Nat}
theorem MpAt.lt (h : MpAt w b ks) : b < w.heap.size := by obtain ⟨es, c, hb, _⟩ := h; exact (Array.getElem?_eq_some_iff.1 hb).1
theorem MpAt.keep {F : Nat → Prop} {w' : World} (h : MpAt w b ks) (k : Keep F w w') (hf : ¬ F b) : MpAt w' b ks := by
  have hl := h.lt
  obtain ⟨es, c, hb, h2, h3⟩ := h
  exact ⟨es, c, (k.block b hl hf).trans hb, h2, h3⟩
theorem mp_keys {es : Array MapEntry} (h2 : es.toList.map (fun e => (e.key, e.val)) = ks.map (fun q => (keyV q, Value.bool true))) (h3 : ∀ q ∈ ks, q.1 ≤ 65536 ∧ q.2 ≤ 65536) : ∀ e ∈ es.toList, ∃ l, keyOf Try.prog plT e.key = some l := fun e he => by
  have : (e.key, e.val) ∈ ks.map (fun q => (keyV q, Value.bool true)) := by rw [← h2]; exact List.mem_map.2 ⟨e, he, rfl⟩
  obtain ⟨p, hp, e1⟩ := List.mem_map.1 this
  have e2 : keyV p = e.key := congrArg Prod.fst e1
  rw [← e2]
  exact key_of p (h3 p hp).1 (h3 p hp).2
theorem mp_find (w : World) {es : Array MapEntry} (h2 : es.toList.map (fun e => (e.key, e.val)) = ks.map (fun q => (keyV q, Value.bool true))) (h3 : ∀ q ∈ ks, q.1 ≤ 65536 ∧ q.2 ≤ 65536) (hq : q.1 ≤ 65536 ∧ q.2 ≤ 65536) :
    ((Instr.findKey plT (keyV q) es.toList).run Try.prog w = .ok none w ∧ q ∉ ks) ∨ ∃ j, (Instr.findKey plT (keyV q) es.toList).run Try.prog w = .ok (some (j, .bool true)) w ∧ ks[j]? = some q := by
  obtain ⟨kl, hkl⟩ := key_of q hq.1 hq.2
  rcases pl_law.find w hkl es.toList (mp_keys h2 h3) with ⟨f1, f2⟩ | ⟨j, e0, f1, f2, f3⟩
  · refine .inl ⟨f1, fun hm => ?_⟩
    have : (keyV q, Value.bool true) ∈ es.toList.map (fun e => (e.key, e.val)) := by rw [h2]; exact List.mem_map.2 ⟨q, hm, rfl⟩
    obtain ⟨e, he, e1⟩ := List.mem_map.1 this
    exact f2 e he (congrArg Prod.fst e1)
  · have hj : (es.toList.map (fun e => (e.key, e.val)))[j]? = some (e0.key, e0.val) := by rw [List.getElem?_map, f2]; rfl
    rw [h2, List.getElem?_map] at hj
    cases hkj : ks[j]? with
    | none => rw [hkj] at hj; cases hj
    | some p =>
      rw [hkj] at hj
      simp only [Option.map_some, Option.some.injEq, Prod.mk.injEq] at hj
      obtain ⟨hk, hv⟩ := hj
      rw [← hv] at f1
      rw [f3] at hk
      exact .inr ⟨j, f1, by rw [keyV_inj hk] at hkj; exact hkj⟩
theorem mp_zero (w : World) : (zeroValue 4).run Try.prog w = .ok (.bool false) w := by kernel_rfl
theorem mp_lookup (h : MpAt w b ks) (hq : q.1 ≤ 65536 ∧ q.2 ≤ 65536) : (Instr.lookup mpT (.map (some b)) (keyV q) false).run Try.prog w = .ok (.bool (decide (q ∈ ks))) w := by
  obtain ⟨es, c, hb, h2, h3⟩ := h
  obtain ⟨kl, hkl⟩ := key_of q hq.1 hq.2
  rcases mp_find w h2 h3 hq with ⟨f1, f2⟩ | ⟨j, f1, f2⟩
  · rw [decide_eq_false f2]
    simp [Instr.lookup, run_underlying Try.underlying232, MapKept.run_getObj_map hb, pl_law.check w _ hkl, f1, mp_zero, Result.andThen]
  · rw [decide_eq_true (List.mem_of_getElem? f2)]
    simp [Instr.lookup, run_underlying Try.underlying232, MapKept.run_getObj_map hb, pl_law.check w _ hkl, f1, Result.andThen]
theorem setBlock_keep {es es' : Array MapEntry} {c c' : Nat} (hb : w.heap[b]? = some (.map es c)) : Keep (· = b) w (setBlock w b (.map es' c')) :=
  ⟨rfl, rfl, rfl, by simp [setBlock], fun k _ hk => heap_setBlock_other hb _ hk⟩
theorem mp_update (h : MpAt w b ks) (hq : q.1 ≤ 65536 ∧ q.2 ≤ 65536) (hn : q ∉ ks) : ∃ w', (Instr.mapUpdate mpT (.map (some b)) (keyV q) (.bool true)).run Try.prog w = .ok () w' ∧ MpAt w' b (ks ++ [q]) ∧ Keep (· = b) w w' := by
  obtain ⟨es, c, hb, h2, h3⟩ := h
  obtain ⟨kl, hkl⟩ := key_of q hq.1 hq.2
  rcases mp_find w h2 h3 hq with ⟨f1, f2⟩ | ⟨j, f1, f2⟩
  · refine ⟨setBlock w b (.map (es.push ⟨keyV q, .bool true, c⟩) (c + 1)), ?_, ⟨es.push ⟨keyV q, .bool true, c⟩, c + 1, heap_setBlock_same hb _, ?_, fun p hp => ?_⟩, setBlock_keep hb⟩
    · simp [Instr.mapUpdate, run_underlying Try.underlying232, MapKept.run_getObj_map hb, pl_law.check w false hkl, f1, MapKept.run_setObj_map _ hb, Result.andThen, setBlock]
    · rw [Array.toList_push, List.map_append, List.map_append, h2]; rfl
    · rcases List.mem_append.1 hp with hp | hp
      · exact h3 p hp
      · rw [List.mem_singleton.1 hp]; exact hq
  · exact absurd (List.mem_of_getElem? f2) hn
theorem map_erase_filter {ks : List (Nat × Nat)} {j : Nat} (hn : ks.Nodup) (hj : ks[j]? = some q) : ks.eraseIdx j = ks.filter (· ≠ q) := by
  induction ks generalizing j with
  | nil => simp at hj
  | cons p r ih =>
    obtain ⟨h1, h2⟩ := List.nodup_cons.1 hn
    cases j with
    | zero =>
      simp only [List.getElem?_cons_zero, Option.some.injEq] at hj
      subst hj
      rw [List.eraseIdx_cons_zero, List.filter_cons_of_neg (by simp)]
      exact (List.filter_eq_self.2 fun x hx => by simp; rintro rfl; exact h1 hx).symm
    | succ j =>
      rw [List.getElem?_cons_succ] at hj
      have hpq : p ≠ q := fun e => h1 (e ▸ List.mem_of_getElem? hj)
      rw [List.eraseIdx_cons_succ, List.filter_cons_of_pos (by simpa using hpq), ih h2 hj]
theorem mp_delete (h : MpAt w b ks) (hq : q.1 ≤ 65536 ∧ q.2 ≤ 65536) (hn : ks.Nodup) (hm : q ∈ ks) (ty : TypeId) : ∃ w', (Builtin.delete_ #[mpT, plT] ty #[.map (some b), keyV q]).run Try.prog w = .ok (.tuple #[]) w' ∧ MpAt w' b (ks.filter (· ≠ q)) ∧ Keep (· = b) w w' := by
  obtain ⟨es, c, hb, h2, h3⟩ := h
  obtain ⟨kl, hkl⟩ := key_of q hq.1 hq.2
  rcases mp_find w h2 h3 hq with ⟨f1, f2⟩ | ⟨j, f1, f2⟩
  · exact absurd hm f2
  · have hjl : j < es.size := by
      have := congrArg List.length h2
      have h4 := (List.getElem?_eq_some_iff.1 f2).1
      simp at this; omega
    have hsub : (es.eraseIdxIfInBounds j).toList = es.toList.eraseIdx j := by
      unfold Array.eraseIdxIfInBounds
      rw [dif_pos hjl]; simp
    refine ⟨setBlock w b (.map (es.eraseIdxIfInBounds j) c), ?_, ⟨es.eraseIdxIfInBounds j, c, heap_setBlock_same hb _, ?_, fun p hp => h3 p ((List.mem_filter.1 hp).1)⟩, setBlock_keep hb⟩
    · simp [Builtin.delete_, run_underlying Try.underlying232, MapKept.run_getObj_map hb, pl_law.check w _ hkl, f1, MapKept.run_setObj_map _ hb, Result.andThen, setBlock]
    · rw [hsub, ← map_erase_filter hn f2, ChangeMaps.map_eraseIdx, h2, ChangeMaps.map_eraseIdx]
theorem mp_len (h : MpAt w b ks) (ty : TypeId) : (Builtin.len_ #[mpT] ty #[.map (some b)]).run Try.prog w = .ok (.int .i64 (ks.length : Nat)) w := by
  obtain ⟨es, c, hb, h2, h3⟩ := h
  have : es.size = ks.length := by have := congrArg List.length h2; simpa using this
  simp [Builtin.len_, run_underlying Try.underlying232, MapKept.run_getObj_map hb, goInt, Result.andThen, this]
end
/-- A map of places. -/
def MpO (b : Nat) (ks : List (Nat × Nat)) : Ob where
  m := true
  p := fun w F => MpAt w b ks ∧ F b ∧ ∀ k, F k → k < w.heap.size
  lt := fun h => h.2.2
  kept := fun {w w' F G} h k hd => ⟨h.1.keep k (hd b h.2.1), h.2.1, fun x hx => Nat.lt_of_lt_of_le (h.2.2 x hx) k.size⟩
section
variable {B : Nat} {w0 w : World} {l : List Ob} {i b : Nat} {ks : List (Nat × Nat)} {q : Nat × Nat}
theorem _root_.Go.Own.St.mp (h : St B w0 w l) (hi : l[i]? = some (MpO b ks)) : MpAt w b ks := by
  obtain ⟨F, h1, _⟩ := h.at hi
  exact h1.1
theorem _root_.Go.Own.St.mpTo (h : St B w0 w l) (hi : l[i]? = some (MpO b ks)) (w' : World) (ks' : List (Nat × Nat)) (hp : MpAt w' b ks') (k : Keep (· = b) w w') : St B w0 w' (l.set i (MpO b ks')) := by
  obtain ⟨F, ⟨h1, h2, h3⟩, _, _, h4⟩ := h.at hi
  exact h4 w' (fun x => x = b) _ rfl (k.mono fun x _ hx => by rw [hx]; exact h2) ⟨hp, rfl, fun x hx => by rw [hx]; exact hp.lt⟩ fun x hx => .inl (by rw [hx]; exact h2)
/-- 'map[place]bool{}'. -/
theorem mp_make (h : St B w0 w l) : St B w0 (w.alloc (.map #[] 0)) (MpO w.heap.size [] :: l) :=
  h.add (F := fun x => x = w.heap.size) ((Below.refl _ _).alloc (Nat.le_refl _) _) ⟨⟨#[], 0, heap_alloc_new w _, rfl, fun q hq => by cases hq⟩, rfl, fun x hx => by rw [hx]; simp⟩ fun x hx => by rw [hx]; exact Nat.le_refl _
section
variable {ops : Array Oper} {rest : List Oper} {o : Oper} {a : Act} {Q : Exit → Act → World → Prop} {K : Act → World → Prop}
theorem mp_update_at (h : St B w0 w l) (i : Nat) (hi : l[i]? = some (MpO b ks)) (m x v : Operand) (ho : o.op = .mapUpdate mpT m x v) (hm : a.eval m = .map (some b)) (hx : a.eval x = keyV q) (hv : a.eval v = .bool true)
    (hq : q.1 ≤ 65536 ∧ q.2 ≤ 65536) (hn : q ∉ ks) (hk : ∀ w', St B w0 w' (l.set i (MpO b (ks ++ [q]))) → K (a.put o.dst undef) w') : o.wp Try.prog a w K Q := by
  obtain ⟨w', hrun, h1, h2⟩ := mp_update (h.mp hi) hq hn
  unfold Oper.wp
  simp [execOp, ho, hm, hx, hv, hrun, Result.andThen]
  exact hk _ (h.mpTo hi w' _ h1 h2)
theorem mp_lookup_st (h : St B w0 w l) (i : Nat) (hi : l[i]? = some (MpO b ks)) (hgd : o.guard = none) (m x : Operand) (ho : o.op = .lookup mpT m x false) (hm : a.eval m = .map (some b)) (hx : a.eval x = keyV q)
    (hq : q.1 ≤ 65536 ∧ q.2 ≤ 65536) (hk : wpList Try.prog ops Q rest (a.put o.dst (.bool (decide (q ∈ ks)))) w) : wpList Try.prog ops Q (o :: rest) a w := by
  refine wpList_plain hgd fun K hK => ?_
  have hrun := mp_lookup (h.mp hi) hq
  unfold Oper.wp
  simp [execOp, ho, hm, hx, hrun, Result.andThen]
  exact hK _ _ hk
theorem mp_delete_st (h : St B w0 w l) (i : Nat) (hi : l[i]? = some (MpO b ks)) (hgd : o.guard = none) (m x : Operand) (ho : o.op = Op.call { callee := Callee.builtin Builtin.delete, args := #[m, x], argTypes := #[mpT, plT] }) (hm : a.eval m = .map (some b)) (hx : a.eval x = keyV q)
    (hq : q.1 ≤ 65536 ∧ q.2 ≤ 65536) (hnd : ks.Nodup) (hmem : q ∈ ks) (hk : ∀ w', St B w0 w' (l.set i (MpO b (ks.filter (· ≠ q)))) → wpList Try.prog ops Q rest (a.put o.dst (.tuple #[])) w') : wpList Try.prog ops Q (o :: rest) a w := by
  refine wpList_plain hgd fun K hK => ?_
  obtain ⟨w', hrun, h1, h2⟩ := mp_delete (h.mp hi) hq hnd hmem o.type
  unfold Oper.wp
  simp [execOp, ho, resolve, invoke, builtin, hm, hx, hrun, Result.andThen]
  exact hK _ _ (hk _ (h.mpTo hi w' _ h1 h2))
theorem mp_len_st (h : St B w0 w l) (i : Nat) (hi : l[i]? = some (MpO b ks)) (hgd : o.guard = none) (m : Operand) (ho : o.op = Op.call { callee := Callee.builtin Builtin.len, args := #[m], argTypes := #[mpT] }) (hm : a.eval m = .map (some b))
    (hk : wpList Try.prog ops Q rest (a.put o.dst (.int .i64 (ks.length : Nat))) w) : wpList Try.prog ops Q (o :: rest) a w := by
  refine wpList_plain hgd fun K hK => ?_
  have hrun := mp_len (h.mp hi) o.type
  unfold Oper.wp
  simp [execOp, ho, resolve, invoke, builtin, hm, hrun, Result.andThen]
  exact hK _ _ hk
end
end
end Go.Proofs.Ytenbpbnffnodhaa
