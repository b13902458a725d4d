/- Texts of the proof of 'AllocPlays', part 7: words on memory, contracts of functions, plain laws. No condition. -/
import Derived.Test.YtenbpbnffnodhaaMgAllocPlays1
import Derived.Test.YtenbpbnffnodhaaMgAllocPlays2
import Derived.Test.YtenbpbnffnodhaaMgAllocPlays4
import Derived.Test.YtenbpbnffnodhaaMgAllocPlays6
import Derived.WalkKit
import Derived.Deep.MidRow
set_option linter.unusedSimpArgs false
set_option linter.unusedVariables false
/- Blocks, lists, bytes of an arena that is right: a gap between blocks, what is taken out of a list and put in, a gap that is closed. No program. -/
namespace Go.Own
/-- Blocks one behind the other, from o to e. -/
def TileTo (b : List UInt8) (e : Nat) : Nat → List Blk → Prop
  | o, [] => o = e
  | o, x :: r => blkAt b o = some x ∧ TileTo b e (o + x.size) r
theorem tile_to {b : List UInt8} : ∀ {l : List Blk} {o : Nat}, Tile b o l ↔ TileTo b b.length o l
  | [], _ => Iff.rfl
  | x :: l, o => by simp only [Tile, TileTo, tile_to (l := l)]
theorem TileTo.append {b : List UInt8} {e : Nat} : ∀ {l1 l2 : List Blk} {o : Nat}, TileTo b e o (l1 ++ l2) ↔ ∃ m, TileTo b m o l1 ∧ TileTo b e m l2
  | [], l2, o => ⟨fun h => ⟨o, rfl, h⟩, fun ⟨m, h1, h2⟩ => by have h1 : o = m := h1; rw [h1]; exact h2⟩
  | x :: l1, l2, o => by
    simp only [List.cons_append, TileTo, TileTo.append (l1 := l1)]
    exact ⟨fun ⟨a, m, c, d⟩ => ⟨m, ⟨a, c⟩, d⟩, fun ⟨m, ⟨a, c⟩, d⟩ => ⟨a, m, c, d⟩⟩
theorem TileTo.le {b : List UInt8} {e : Nat} : ∀ {l : List Blk} {o : Nat}, TileTo b e o l → o ≤ e
  | [], _, h => Nat.le_of_eq h
  | _ :: _, _, h => Nat.le_trans (Nat.le_add_right _ _) (TileTo.le h.2)
theorem TileTo.mem {b : List UInt8} {e : Nat} {x : Blk} : ∀ {l : List Blk} {o : Nat}, TileTo b e o l → x ∈ l → o ≤ x.off ∧ blkAt b x.off = some x ∧ x.off + x.size ≤ e
  | [], _, _, h => by cases h
  | y :: r, o, ht, h => by
    have hy := blkAt_some ht.1
    rcases List.mem_cons.1 h with rfl | h
    · have := ht.2.le; rw [hy.1]; exact ⟨Nat.le_refl _, ht.1, by omega⟩
    · have := ht.2.mem h; exact ⟨by omega, this.2⟩
theorem TileTo.apart {b : List UInt8} {e : Nat} {x y : Blk} : ∀ {l : List Blk} {o : Nat}, TileTo b e o l → x ∈ l → y ∈ l → x = y ∨ x.off + x.size ≤ y.off ∨ y.off + y.size ≤ x.off
  | [], _, _, h, _ => by cases h
  | z :: r, o, ht, hx, hy => by
    have hz := blkAt_some ht.1
    rcases List.mem_cons.1 hx with e1 | h1 <;> rcases List.mem_cons.1 hy with e2 | h2
    · exact .inl (e1.trans e2.symm)
    · subst e1; have := ht.2.mem h2; exact .inr (.inl (by omega))
    · subst e2; have := ht.2.mem h1; exact .inr (.inr (by omega))
    · exact ht.2.apart h1 h2
theorem TileTo.mod {b : List UInt8} {e : Nat} : ∀ {l : List Blk} {o : Nat}, TileTo b e o l → o % 16 = 8 → e % 16 = 8
  | [], _, h, h8 => by have h : _ = e := h; omega
  | x :: l, o, h, h8 => by have := blkAt_some h.1; exact TileTo.mod h.2 (by omega)
theorem TileTo.touch {T : Nat → Prop} {b b' : List UInt8} (ht : Touch T b b') {e : Nat} : ∀ {l : List Blk} {o : Nat}, TileTo b e o l → (∀ x ∈ l, ∀ t, T t → (x.off + 8 ≤ t ∨ t + 8 ≤ x.off) ∧ (x.off + x.size ≤ t ∨ t + 8 ≤ x.off + x.size - 8)) → TileTo b' e o l
  | [], _, h, _ => h
  | x :: l, o, h, hf => by
    have hx := (blkAt_some h.1).1
    refine ⟨blkAt_touch ht h.1 fun t h3 => ?_, TileTo.touch ht h.2 fun y hy => hf y (List.mem_cons_of_mem _ hy)⟩
    have := hf x (List.mem_cons_self ..) t h3
    rw [hx] at this; exact this
/-- The lists hang on the header's words and on the link words of what is in them. -/
theorem Lists.frame {b b' : List UInt8} {bs bs' : List Blk} {ls : Nat → List Nat} (h : Lists b bs ls) (hh : ∀ t, t + 8 ≤ 184 → t % 8 = 0 → numAt b' t = numAt b t)
    (hl : ∀ c, c < 22 → ∀ o ∈ ls c, numAt b' (o + 8) = numAt b (o + 8) ∧ numAt b' (o + 16) = numAt b (o + 16))
    (hm : ∀ c, c < 22 → ∀ o ∈ ls c, ∃ x ∈ bs', x.off = o ∧ x.used = false ∧ cls x.size = c) : Lists b' bs' ls where
  w0 := by rw [hh 0 (by omega) rfl]; exact h.w0
  bit := fun c hc => by rw [hh 0 (by omega) rfl]; exact h.bit c hc
  seg := fun c hc => by
    obtain ⟨z, hz⟩ := h.seg c hc
    rw [hh (headO c) (by unfold headO; omega) (by unfold headO; omega)]
    exact ⟨z, hz.frame (hl c hc)⟩
  mem := hm
  nodup := h.nodup
theorem Lists.mono {b : List UInt8} {bs bs' : List Blk} {ls : Nat → List Nat} (h : Lists b bs ls) (hm : ∀ c, c < 22 → ∀ o ∈ ls c, ∃ x ∈ bs', x.off = o ∧ x.used = false ∧ cls x.size = c) : Lists b bs' ls :=
  h.frame (fun _ _ _ => rfl) (fun _ _ _ _ => ⟨rfl, rfl⟩) hm
def clsN (s : Nat) : Nat := (cls s).toNat
theorem clsN_lt {b : List UInt8} {o : Nat} {x : Blk} (h : blkAt b o = some x) : clsN x.size < 22 ∧ cls x.size = clsN x.size := by
  have := cls_size (blkAt_isSize h)
  unfold clsN; omega
def outL (ls : Nat → List Nat) (c o : Nat) : Nat → List Nat := fun d => if d = c then (ls c).filter (· ≠ o) else ls d
def inL (ls : Nat → List Nat) (c o : Nat) : Nat → List Nat := fun d => if d = c then o :: ls c else ls d
/-- The used ones of blocks. -/
def usedOf (bs : List Blk) : List Blk := bs.filter (·.used)
theorem mem_usedOf {bs : List Blk} {x : Blk} : x ∈ usedOf bs ↔ x ∈ bs ∧ x.used = true := by unfold usedOf; rw [List.mem_filter]
/-- A word that has no byte of these blocks. -/
def Spare (us : List Blk) (t : Nat) : Prop := ∀ y ∈ us, t + 8 ≤ y.off ∨ y.off + y.size ≤ t
/-- All bytes of these blocks are as they were. -/
def SameU (us : List Blk) (b b' : List UInt8) : Prop := ∀ y ∈ us, (b'.drop y.off).take y.size = (b.drop y.off).take y.size
theorem SameU.refl (us : List Blk) (b : List UInt8) : SameU us b b := fun _ _ => rfl
theorem SameU.trans {us : List Blk} {a b c : List UInt8} (h : SameU us a b) (k : SameU us b c) : SameU us a c := fun y hy => (k y hy).trans (h y hy)
theorem SameU.of {us : List Blk} {T : Nat → Prop} {b b' : List UInt8} (h : Touch T b b') (ht : ∀ t, T t → Spare us t) : SameU us b b' := fun y hy => h.same _ _ fun t h1 => (ht t h1 y hy).symm
theorem SameU.mono {us vs : List Blk} {b b' : List UInt8} (h : SameU us b b') (hv : ∀ y ∈ vs, y ∈ us) : SameU vs b b' := fun y hy => h y (hv y hy)
/-- An arena that is right: its blocks, its lists. -/
structure Right (b : List UInt8) (bs : List Blk) (ls : Nat → List Nat) : Prop where
  max : b.length ≤ 16384
  tile : TileTo b b.length 184 bs
  lists : Lists b bs ls
  cover : ∀ y ∈ bs, y.used = false → y.off ∈ ls (clsN y.size)
/-- The same, but for a gap from o on, of s bytes, that is no block. -/
structure Hole (b : List UInt8) (pre : List Blk) (o s : Nat) (post : List Blk) (ls : Nat → List Nat) : Prop where
  max : b.length ≤ 16384
  tpre : TileTo b o 184 pre
  size : 32 ≤ s ∧ s % 16 = 0
  tpost : TileTo b b.length (o + s) post
  lists : Lists b (pre ++ post) ls
  cover : ∀ y ∈ pre ++ post, y.used = false → y.off ∈ ls (clsN y.size)
theorem Right.good {b : List UInt8} {bs : List Blk} {ls : Nat → List Nat} (h : Right b bs ls) : Good b bs := (tile_to.2 h.tile).good
theorem Right.len {b : List UInt8} {bs : List Blk} {ls : Nat → List Nat} (h : Right b bs ls) : 184 ≤ b.length := h.tile.le
section
variable {b : List UInt8} {pre post : List Blk} {o s : Nat} {ls : Nat → List Nat}
theorem Hole.at (h : Hole b pre o s post ls) : 184 ≤ o ∧ o % 16 = 8 ∧ o + s ≤ b.length ∧ 184 ≤ b.length := by
  have h1 := h.tpre.le; have h2 := h.tpost.le
  exact ⟨h1, h.tpre.mod (by decide), h2, by have := h.size; omega⟩
theorem Hole.sized (h : Hole b pre o s post ls) : isSize s = true := by
  have h1 := h.size; have h2 := h.max; have h3 := h.at
  exact isSize_yes (by omega)
theorem Hole.side (h : Hole b pre o s post ls) {x : Blk} (hx : x ∈ pre ++ post) : 184 ≤ x.off ∧ blkAt b x.off = some x ∧ x.off + x.size ≤ b.length ∧ (x.off + x.size ≤ o ∨ o + s ≤ x.off) := by
  have h3 := h.at
  rcases List.mem_append.1 hx with hx | hx
  · have := h.tpre.mem hx; exact ⟨by omega, this.2.1, by omega, .inl this.2.2⟩
  · have := h.tpost.mem hx; exact ⟨by omega, this.2.1, this.2.2, .inr this.1⟩
theorem Hole.good (h : Hole b pre o s post ls) : Good b (pre ++ post) where
  mem := fun hx => by have := h.side hx; exact ⟨this.1, this.2.1, this.2.2.1⟩
  apart := fun {x y} hx hy => by
    rcases List.mem_append.1 hx with h1 | h1 <;> rcases List.mem_append.1 hy with h2 | h2
    · exact h.tpre.apart h1 h2
    · have := h.tpre.mem h1; have := h.tpost.mem h2; exact .inr (.inl (by omega))
    · have := h.tpre.mem h2; have := h.tpost.mem h1; exact .inr (.inr (by omega))
    · exact h.tpost.apart h1 h2
theorem LinkW.spare {bs : List Blk} (h : Good b bs) {t : Nat} (ht : LinkW bs t) : Spare (usedOf bs) t := by
  intro y hy
  obtain ⟨hy, hu⟩ := mem_usedOf.1 hy
  have h1 := h.mem hy
  rcases ht with ht | ⟨x, hx, hxu, ht⟩
  · exact .inl (by omega)
  · have h2 := blkAt_some (h.mem hx).2.1
    rcases h.apart hx hy with e | e | e
    · rw [e, hu] at hxu; cases hxu
    · exact .inl (by omega)
    · exact .inr (by omega)
/-- A free block that is taken out of its list. -/
theorem take_free {bs : List Blk} (hg : Good b bs) (hl : 184 ≤ b.length) (h : Lists b bs ls) (hc : ∀ y ∈ bs, y.used = false → y.off ∈ ls (clsN y.size)) {y : Blk} (hy : y ∈ bs) (hu : y.used = false) :
    ∃ b', takeB b y.off = some b' ∧ Touch (LinkW bs) b b' ∧ Lists b' bs (outL ls (clsN y.size) y.off) ∧ ∀ d, d < 22 → ∀ q ∈ outL ls (clsN y.size) y.off d, ∃ x ∈ bs, x ≠ y ∧ x.off = q ∧ x.used = false ∧ cls x.size = d := by
  have hcy := clsN_lt (hg.mem hy).2.1
  obtain ⟨b', h1, h2, h3⟩ := takeB_lists h hg hl hcy.1 (hc y hy hu)
  refine ⟨b', h1, h2, h3, fun d hd q hq => ?_⟩
  obtain ⟨x, hx, e1, e2, e3⟩ := h3.mem d hd q hq
  refine ⟨x, hx, fun e => ?_, e1, e2, e3⟩
  subst e
  have hdc : d = clsN x.size := by omega
  subst hdc
  unfold outL at hq
  rw [if_pos rfl, List.mem_filter] at hq
  simp [e1] at hq
theorem out_cover {bs : List Blk} (hg : Good b bs) (hc : ∀ y ∈ bs, y.used = false → y.off ∈ ls (clsN y.size)) {y z : Blk} (hy : y ∈ bs) (hz : z ∈ bs) (hne : z ≠ y) (hu : z.used = false) : z.off ∈ outL ls (clsN y.size) y.off (clsN z.size) := by
  have h1 := hc z hz hu
  have hoff : z.off ≠ y.off := fun e => by
    have g1 := (hg.mem hz).2.1; have g2 := (hg.mem hy).2.1
    rw [e, g2] at g1
    simp only [Option.some.injEq] at g1
    exact hne g1.symm
  unfold outL
  split
  · rename_i e; rw [e] at h1; rw [List.mem_filter]; exact ⟨h1, by simpa using hoff⟩
  · exact h1
/-- What is behind the gap is free: taken out of its list, the gap has it. -/
theorem Hole.next {y : Blk} (h : Hole b pre o s (y :: post) ls) (hu : y.used = false) :
    ∃ b', takeB b y.off = some b' ∧ y.off = o + s ∧ b'.length = b.length ∧ SameU (usedOf (pre ++ post)) b b' ∧ Hole b' pre o (s + y.size) post (outL ls (clsN y.size) y.off) := by
  have hm : y ∈ pre ++ y :: post := List.mem_append_right _ (List.mem_cons_self ..)
  have hg := h.good
  have hat := h.at
  obtain ⟨b', h1, h2, h3, h4⟩ := take_free hg hat.2.2.2 h.lists h.cover hm hu
  have hys := blkAt_some h.tpost.1
  have hsub : ∀ x ∈ pre ++ post, x ∈ pre ++ y :: post := fun x hx => by
    rcases List.mem_append.1 hx with hx | hx
    · exact List.mem_append_left _ hx
    · exact List.mem_append_right _ (List.mem_cons_of_mem _ hx)
  refine ⟨b', h1, hys.1, h2.len, (SameU.of h2 fun t ht => LinkW.spare hg ht).mono fun z hz => ?_, ?_⟩
  · obtain ⟨hz, hzu⟩ := mem_usedOf.1 hz
    exact mem_usedOf.2 ⟨hsub z hz, hzu⟩
  refine ⟨by rw [h2.len]; exact h.max, h.tpre.touch h2 fun x hx t ht => ht.off hg (List.mem_append_left _ hx), ⟨by have := h.size; omega, by have := h.size; omega⟩, ?_, ?_, fun z hz hzu => ?_⟩
  · rw [h2.len]
    have := (TileTo.touch h2 h.tpost fun x hx t ht => ht.off hg (List.mem_append_right _ hx)).2
    rw [Nat.add_assoc] at this; exact this
  · refine h3.mono fun d hd q hq => ?_
    obtain ⟨x, hx, hne, e⟩ := h4 d hd q hq
    refine ⟨x, ?_, e⟩
    rcases List.mem_append.1 hx with hx | hx
    · exact List.mem_append_left _ hx
    · rcases List.mem_cons.1 hx with hx | hx
      · exact absurd hx hne
      · exact List.mem_append_right _ hx
  · refine out_cover hg h.cover hm (hsub z hz) (fun e => ?_) hzu
    subst e
    have h5 := h.tpost.le
    rcases List.mem_append.1 hz with hz | hz
    · have := h.tpre.mem hz; have := h.size; omega
    · have := h.tpost.2.mem hz; omega
/-- What is ahead of the gap is free: taken out of its list, the gap has it. -/
theorem Hole.prev {y : Blk} (h : Hole b (pre ++ [y]) o s post ls) (hu : y.used = false) :
    ∃ b', takeB b y.off = some b' ∧ y.off + y.size = o ∧ b'.length = b.length ∧ SameU (usedOf (pre ++ post)) b b' ∧ Hole b' pre y.off (y.size + s) post (outL ls (clsN y.size) y.off) := by
  have hm : y ∈ (pre ++ [y]) ++ post := List.mem_append_left _ (List.mem_append_right _ (List.mem_cons_self ..))
  have hg := h.good
  have hat := h.at
  obtain ⟨b', h1, h2, h3, h4⟩ := take_free hg hat.2.2.2 h.lists h.cover hm hu
  obtain ⟨m, hp1, hp2⟩ := TileTo.append.1 h.tpre
  have hys := blkAt_some hp2.1
  have hym : y.off = m := hys.1
  have hyo : m + y.size = o := hp2.2
  have hsub : ∀ x ∈ pre ++ post, x ∈ (pre ++ [y]) ++ post := fun x hx => by
    rcases List.mem_append.1 hx with hx | hx
    · exact List.mem_append_left _ (List.mem_append_left _ hx)
    · exact List.mem_append_right _ hx
  refine ⟨b', h1, by omega, h2.len, (SameU.of h2 fun t ht => LinkW.spare hg ht).mono fun z hz => ?_, ?_⟩
  · obtain ⟨hz, hzu⟩ := mem_usedOf.1 hz
    exact mem_usedOf.2 ⟨hsub z hz, hzu⟩
  refine ⟨by rw [h2.len]; exact h.max, ?_, ⟨by have := h.size; omega, by have := h.size; omega⟩, ?_, ?_, fun z hz hzu => ?_⟩
  · rw [hym]; exact hp1.touch h2 fun x hx t ht => ht.off hg (List.mem_append_left _ (List.mem_append_left _ hx))
  · rw [h2.len, show y.off + (y.size + s) = o + s by omega]
    exact h.tpost.touch h2 fun x hx t ht => ht.off hg (List.mem_append_right _ hx)
  · refine h3.mono fun d hd q hq => ?_
    obtain ⟨x, hx, hne, e⟩ := h4 d hd q hq
    refine ⟨x, ?_, e⟩
    rcases List.mem_append.1 hx with hx | hx
    · rcases List.mem_append.1 hx with hx | hx
      · exact List.mem_append_left _ hx
      · exact absurd (List.mem_singleton.1 hx) hne
    · exact List.mem_append_right _ hx
  · refine out_cover hg h.cover hm (hsub z hz) (fun e => ?_) hzu
    subst e
    rcases List.mem_append.1 hz with hz | hz
    · have := hp1.mem hz; omega
    · have := h.tpost.mem hz; have := h.size; omega
/-- Both tags are laid: the gap is a block. -/
theorem Hole.set (h : Hole b pre o s post ls) (u : Bool) :
    Touch (fun t => o ≤ t ∧ t + 8 ≤ o + s) b (setB b ⟨o, s, u⟩) ∧ TileTo (setB b ⟨o, s, u⟩) b.length 184 (pre ++ ⟨o, s, u⟩ :: post) ∧ Lists (setB b ⟨o, s, u⟩) (pre ++ ⟨o, s, u⟩ :: post) ls ∧ SameU (usedOf (pre ++ post)) b (setB b ⟨o, s, u⟩) := by
  have hat := h.at; have hsz := h.size
  have ht : Touch (fun t => o ≤ t ∧ t + 8 ≤ o + s) b (setB b ⟨o, s, u⟩) := setB_touch b ⟨o, s, u⟩ (by show 16 ≤ s; omega) (by show o + s ≤ _; omega) ⟨Nat.le_refl _, by show o + 8 ≤ _; omega⟩ ⟨by show o ≤ o + s - 8; omega, by show o + s - 8 + 8 ≤ _; omega⟩
  have hoff : ∀ x ∈ pre ++ post, ∀ t, (o ≤ t ∧ t + 8 ≤ o + s) → (x.off + 8 ≤ t ∨ t + 8 ≤ x.off) ∧ (x.off + x.size ≤ t ∨ t + 8 ≤ x.off + x.size - 8) := fun x hx t ht => by
    have h1 := h.side hx; have h2 := blkAt_some h1.2.1; omega
  refine ⟨ht, TileTo.append.2 ⟨o, h.tpre.touch ht fun x hx => hoff x (List.mem_append_left _ hx), blkAt_setB hat.1 hat.2.1 h.sized hat.2.2.1, h.tpost.touch ht fun x hx => hoff x (List.mem_append_right _ hx)⟩, ?_, SameU.of ht fun t h1 y hy => ?_⟩
  · refine h.lists.frame (fun t h1 _ => ht.num t fun t' h2 => by omega) (fun c hc q hq => ?_) (fun c hc q hq => ?_)
    · obtain ⟨x, hx, rfl, _⟩ := h.lists.mem c hc q hq
      have h1 := h.side hx; have h2 := blkAt_some h1.2.1
      exact ⟨ht.num _ fun t' h3 => by omega, ht.num _ fun t' h3 => by omega⟩
    · obtain ⟨x, hx, e⟩ := h.lists.mem c hc q hq
      refine ⟨x, ?_, e⟩
      rcases List.mem_append.1 hx with hx | hx
      · exact List.mem_append_left _ hx
      · exact List.mem_append_right _ (List.mem_cons_of_mem _ hx)
  · have := h.side (mem_usedOf.1 hy).1; omega
theorem Hole.close (h : Hole b pre o s post ls) : Right (setB b ⟨o, s, true⟩) (pre ++ ⟨o, s, true⟩ :: post) ls := by
  obtain ⟨h1, h2, h3, _⟩ := h.set true
  refine ⟨by rw [h1.len]; exact h.max, by rw [h1.len]; exact h2, h3, fun y hy hu => ?_⟩
  refine h.cover y ?_ hu
  rcases List.mem_append.1 hy with hy | hy
  · exact List.mem_append_left _ hy
  · rcases List.mem_cons.1 hy with rfl | hy
    · cases hu
    · exact List.mem_append_right _ hy
/-- The gap is a free block, the first of its list. -/
theorem Hole.put (h : Hole b pre o s post ls) :
    ∃ b', putB (setB b ⟨o, s, false⟩) o = some b' ∧ b'.length = b.length ∧ SameU (usedOf (pre ++ post)) b b' ∧ Right b' (pre ++ ⟨o, s, false⟩ :: post) (inL ls (clsN s) o) := by
  obtain ⟨h1, h2, h3, h4⟩ := h.set false
  have hg : Good (setB b ⟨o, s, false⟩) (pre ++ ⟨o, s, false⟩ :: post) := (tile_to.2 (by rw [h1.len]; exact h2)).good
  have hm : (⟨o, s, false⟩ : Blk) ∈ pre ++ ⟨o, s, false⟩ :: post := List.mem_append_right _ (List.mem_cons_self ..)
  have hc := clsN_lt (hg.mem hm).2.1
  have hat := h.at
  have hno : o ∉ ls (clsN s) := fun hq => by
    obtain ⟨x, hx, e, _⟩ := h.lists.mem _ hc.1 _ hq
    have g1 := h.side hx; have g2 := blkAt_some g1.2.1; have := h.size; omega
  obtain ⟨b', p1, p2, p3⟩ := putB_lists h3 hg (by rw [h1.len]; exact hat.2.2.2) (by rw [h1.len]; exact h.max) hc.1 hm rfl hc.2 hno
  have hlen : b'.length = b.length := p2.len.trans h1.len
  refine ⟨b', p1, hlen, h4.trans ((SameU.of p2 fun t ht => LinkW.spare hg ht).mono fun y hy => ?_), by rw [hlen]; exact h.max, ?_, p3, fun y hy hu => ?_⟩
  · obtain ⟨hy, hu⟩ := mem_usedOf.1 hy
    refine mem_usedOf.2 ⟨?_, hu⟩
    rcases List.mem_append.1 hy with hy | hy
    · exact List.mem_append_left _ hy
    · exact List.mem_append_right _ (List.mem_cons_of_mem _ hy)
  · rw [hlen]
    exact TileTo.touch p2 h2 fun x hx t ht => ht.off hg hx
  · have hy' : y = ⟨o, s, false⟩ ∨ y ∈ pre ++ post := by
      rcases List.mem_append.1 hy with hy | hy
      · exact .inr (List.mem_append_left _ hy)
      · rcases List.mem_cons.1 hy with hy | hy
        · exact .inl hy
        · exact .inr (List.mem_append_right _ hy)
    unfold inL
    rcases hy' with rfl | hy'
    · rw [if_pos rfl]; exact List.mem_cons_self ..
    · have := h.cover y hy' hu
      split
      · rename_i e; rw [e] at this; exact List.mem_cons_of_mem _ this
      · exact this
end
section
variable {b : List UInt8} {pre post : List Blk} {x : Blk} {ls : Nat → List Nat}
/-- A used block, told as a gap. -/
theorem Right.hole (h : Right b (pre ++ x :: post) ls) (hu : x.used = true) : Hole b pre x.off x.size post ls := by
  obtain ⟨m, h1, h2⟩ := TileTo.append.1 h.tile
  have hx := blkAt_some h2.1
  have hm : x.off = m := hx.1
  have hsub : ∀ y ∈ pre ++ post, y ∈ pre ++ x :: post := fun y hy => by
    rcases List.mem_append.1 hy with hy | hy
    · exact List.mem_append_left _ hy
    · exact List.mem_append_right _ (List.mem_cons_of_mem _ hy)
  refine ⟨h.max, by rw [hm]; exact h1, by omega, by rw [hm]; exact h2.2, h.lists.mono fun c hc q hq => ?_, fun y hy => h.cover y (hsub y hy)⟩
  obtain ⟨y, hy, e1, e2, e3⟩ := h.lists.mem c hc q hq
  refine ⟨y, ?_, e1, e2, e3⟩
  rcases List.mem_append.1 hy with hy | hy
  · exact List.mem_append_left _ hy
  · rcases List.mem_cons.1 hy with rfl | hy
    · rw [hu] at e2; cases e2
    · exact List.mem_append_right _ hy
/-- A free block that is taken out of its list is a gap. -/
theorem Right.take (h : Right b (pre ++ x :: post) ls) (hu : x.used = false) :
    ∃ b', takeB b x.off = some b' ∧ b'.length = b.length ∧ SameU (usedOf (pre ++ post)) b b' ∧ Hole b' pre x.off x.size post (outL ls (clsN x.size) x.off) ∧ blkAt b' x.off = some x := by
  have hm : x ∈ pre ++ x :: post := List.mem_append_right _ (List.mem_cons_self ..)
  have hg := h.good
  obtain ⟨b', h1, h2, h3, h4⟩ := take_free hg h.len h.lists h.cover hm hu
  have ht := TileTo.touch h2 h.tile fun y hy t ht => ht.off hg hy
  obtain ⟨m, t1, t2⟩ := TileTo.append.1 ht
  have hx := blkAt_some t2.1
  have hxm : x.off = m := hx.1
  have hsub : ∀ y ∈ pre ++ post, y ∈ pre ++ x :: post := fun y hy => by
    rcases List.mem_append.1 hy with hy | hy
    · exact List.mem_append_left _ hy
    · exact List.mem_append_right _ (List.mem_cons_of_mem _ hy)
  refine ⟨b', h1, h2.len, (SameU.of h2 fun t ht => LinkW.spare hg ht).mono fun z hz => ?_, ⟨by rw [h2.len]; exact h.max, by rw [hxm]; exact t1, by omega, by rw [hxm, h2.len]; exact t2.2, ?_, fun z hz hzu => ?_⟩, by rw [hxm]; exact t2.1⟩
  · obtain ⟨hz, hzu⟩ := mem_usedOf.1 hz
    exact mem_usedOf.2 ⟨hsub z hz, hzu⟩
  · refine h3.mono fun d hd q hq => ?_
    obtain ⟨y, hy, hne, e⟩ := h4 d hd q hq
    refine ⟨y, ?_, e⟩
    rcases List.mem_append.1 hy with hy | hy
    · exact List.mem_append_left _ hy
    · rcases List.mem_cons.1 hy with hy | hy
      · exact absurd hy hne
      · exact List.mem_append_right _ hy
  · refine out_cover hg h.cover hm (hsub z hz) (fun e => ?_) hzu
    subst e
    rcases List.mem_append.1 hz with hz | hz
    · have := t1.mem hz; omega
    · have := t2.2.mem hz; omega
/-- A gap is cut in two; the first part is a block. -/
theorem Hole.cut {o s n : Nat} (h : Hole b pre o s post ls) (hn : isSize n = true) (hr : n + 32 ≤ s) :
    Hole (setB b ⟨o, n, true⟩) (pre ++ [⟨o, n, true⟩]) (o + n) (s - n) post ls ∧ SameU (usedOf (pre ++ post)) b (setB b ⟨o, n, true⟩) ∧ (setB b ⟨o, n, true⟩).length = b.length := by
  have hat := h.at; have hsz := h.size
  have hn' := (isSize_iff _).1 hn
  have ht : Touch (fun t => o ≤ t ∧ t + 8 ≤ o + s) b (setB b ⟨o, n, true⟩) := setB_touch b ⟨o, n, true⟩ (by show 16 ≤ n; omega) (by show o + n ≤ _; omega) ⟨Nat.le_refl _, by show o + 8 ≤ _; omega⟩ ⟨by show o ≤ o + n - 8; omega, by show o + n - 8 + 8 ≤ _; omega⟩
  have hoff : ∀ x ∈ pre ++ post, ∀ t, (o ≤ t ∧ t + 8 ≤ o + s) → (x.off + 8 ≤ t ∨ t + 8 ≤ x.off) ∧ (x.off + x.size ≤ t ∨ t + 8 ≤ x.off + x.size - 8) := fun x hx t ht => by
    have h1 := h.side hx; have h2 := blkAt_some h1.2.1; omega
  refine ⟨⟨by rw [ht.len]; exact h.max, TileTo.append.2 ⟨o, h.tpre.touch ht fun x hx => hoff x (List.mem_append_left _ hx), blkAt_setB hat.1 hat.2.1 hn (by omega), rfl⟩, by omega, ?_, ?_, fun y hy hu => ?_⟩, SameU.of ht fun t h1 y hy => ?_, ht.len⟩
  · rw [ht.len, show o + n + (s - n) = o + s by omega]
    exact h.tpost.touch ht fun x hx => hoff x (List.mem_append_right _ hx)
  · refine h.lists.frame (fun t h1 _ => ht.num t fun t' h2 => by omega) (fun c hc q hq => ?_) (fun c hc q hq => ?_)
    · obtain ⟨x, hx, rfl, _⟩ := h.lists.mem c hc q hq
      have h1 := h.side hx; have h2 := blkAt_some h1.2.1
      exact ⟨ht.num _ fun t' h3 => by omega, ht.num _ fun t' h3 => by omega⟩
    · obtain ⟨x, hx, e⟩ := h.lists.mem c hc q hq
      refine ⟨x, ?_, e⟩
      rcases List.mem_append.1 hx with hx | hx
      · exact List.mem_append_left _ (List.mem_append_left _ hx)
      · exact List.mem_append_right _ hx
  · refine h.cover y ?_ hu
    rcases List.mem_append.1 hy with hy | hy
    · rcases List.mem_append.1 hy with hy | hy
      · exact List.mem_append_left _ hy
      · rw [List.mem_singleton.1 hy] at hu; cases hu
    · exact List.mem_append_right _ hy
  · have := h.side (mem_usedOf.1 hy).1; omega
end
end Go.Own

/- Which free block is found, in plain words. No program. -/
namespace Go.Own
/-- The size of the block at a place; 0: none is there. -/
def sizeAt (bs : List Blk) (o : Nat) : Nat := match bs.find? (fun x => x.off == o) with
  | some x => x.size
  | none => 0
theorem find_off {b : List UInt8} {bs : List Blk} (hg : Good b bs) {x : Blk} (hx : x ∈ bs) : bs.find? (fun y => y.off == x.off) = some x := by
  cases h : bs.find? (fun y => y.off == x.off) with
  | none =>
    have := List.find?_eq_none.1 h x hx
    simp at this
  | some y =>
    have h1 := List.find?_some h
    have h2 := List.mem_of_find?_eq_some h
    have e : y.off = x.off := by simpa using h1
    have g1 := (hg.mem h2).2.1; have g2 := (hg.mem hx).2.1
    rw [e, g2] at g1
    exact g1.symm
theorem sizeAt_mem {b : List UInt8} {bs : List Blk} (hg : Good b bs) {x : Blk} (hx : x ∈ bs) : sizeAt bs x.off = x.size := by
  unfold sizeAt; rw [find_off hg hx]
/-- Of so many classes from c on, the first block in a list that is large enough. -/
def findIn (bs : List Blk) (ls : Nat → List Nat) (size : Nat) : Nat → Nat → Option Nat
  | 0, _ => none
  | f + 1, c => match (ls c).find? (fun o => decide (size ≤ sizeAt bs o)) with
    | some o => some o
    | none => findIn bs ls size f (c + 1)
theorem findIn_some {bs : List Blk} {ls : Nat → List Nat} {size o : Nat} : ∀ {f c : Nat}, findIn bs ls size f c = some o → ∃ d, c ≤ d ∧ d < c + f ∧ o ∈ ls d ∧ size ≤ sizeAt bs o
  | 0, _, h => by cases h
  | f + 1, c, h => by
    unfold findIn at h
    split at h
    · rename_i o' e
      simp only [Option.some.injEq] at h
      subst h
      have h1 := List.find?_some e
      exact ⟨c, Nat.le_refl _, by omega, List.mem_of_find?_eq_some e, by simpa using h1⟩
    · obtain ⟨d, h1, h2, h3⟩ := findIn_some h
      exact ⟨d, by omega, by omega, h3⟩
theorem findIn_none {bs : List Blk} {ls : Nat → List Nat} {size : Nat} : ∀ {f c : Nat}, findIn bs ls size f c = none → ∀ d, c ≤ d → d < c + f → ∀ o ∈ ls d, ¬ size ≤ sizeAt bs o
  | 0, _, _, d, h1, h2, _, _ => by omega
  | f + 1, c, h, d, h1, h2, o, ho => by
    unfold findIn at h
    split at h
    · cases h
    · rename_i e
      by_cases hd : d = c
      · subst hd
        have := List.find?_eq_none.1 e o ho
        simpa using this
      · exact findIn_none h d (by omega) (by omega) o ho
theorem firstFit_find {b : List UInt8} {bs : List Blk} (hg : Good b bs) {size : Nat} : ∀ (l : List Nat), (∀ o ∈ l, ∃ x ∈ bs, x.off = o) → firstFit b size l = l.find? (fun o => decide (size ≤ sizeAt bs o))
  | [], _ => rfl
  | o :: l, h => by
    obtain ⟨x, hx, rfl⟩ := h o (List.mem_cons_self ..)
    have ih := firstFit_find hg (size := size) l fun o ho => h o (List.mem_cons_of_mem _ ho)
    unfold firstFit
    rw [(hg.mem hx).2.1, List.find?_cons, sizeAt_mem hg hx]
    simp only
    by_cases hs : size ≤ x.size
    · rw [if_pos hs, decide_eq_true hs]
    · rw [if_neg hs, decide_eq_false hs]; exact ih
theorem findFrom_in {b : List UInt8} {bs : List Blk} {ls : Nat → List Nat} (hl : Lists b bs ls) (hg : Good b bs) (h1 : 184 ≤ b.length) (h2 : b.length ≤ 16384) {size : Nat} : ∀ (f c : Nat), c + f ≤ 22 → findFrom b size f c = some ((findIn bs ls size f c).getD 0)
  | 0, _, _ => rfl
  | f + 1, c, hc => by
    unfold findFrom findIn
    rw [hl.all hg h1 h2 (by omega)]
    simp only
    rw [firstFit_find hg (ls c) fun o ho => by
      obtain ⟨x, hx, e, _⟩ := hl.mem c (by omega) o ho
      exact ⟨x, hx, e⟩]
    cases (ls c).find? (fun o => decide (size ≤ sizeAt bs o)) with
    | some o => rfl
    | none => exact findFrom_in hl hg h1 h2 f (c + 1) (by omega)
/-- Where a block with so many bytes is found. -/
def findL (bs : List Blk) (ls : Nat → List Nat) (size : Nat) : Option Nat := findIn bs ls size (22 - clsN size) (clsN size)
theorem clsN_mono {s t : Nat} (hs : isSize s = true) (ht : isSize t = true) (h : s ≤ t) : clsN s ≤ clsN t := by
  have h1 := (isSize_iff _).1 hs; have h2 := (isSize_iff _).1 ht
  unfold clsN cls; rw [hs, ht]; simp only [if_true]
  repeat' split
  all_goals omega
theorem clsN_lt22 {s : Nat} (hs : isSize s = true) : clsN s < 22 := by have := cls_size hs; unfold clsN; omega
theorem findB_right {b : List UInt8} {bs : List Blk} {ls : Nat → List Nat} (h : Right b bs ls) {size : Nat} (hs : isSize size = true) : findB b size = some ((findL bs ls size).getD 0) := by
  have hc := clsN_lt22 hs
  have := findFrom_in h.lists h.good h.len h.max (size := size) (22 - clsN size) (clsN size) (by omega)
  exact this
/-- What is found is free, and has so many bytes. -/
theorem findL_some {b : List UInt8} {bs : List Blk} {ls : Nat → List Nat} (h : Right b bs ls) {size o : Nat} (hs : isSize size = true) (hf : findL bs ls size = some o) : ∃ x ∈ bs, x.off = o ∧ x.used = false ∧ size ≤ x.size ∧ o ≠ 0 := by
  have hc := clsN_lt22 hs
  obtain ⟨d, h1, h2, h3, h4⟩ := findIn_some hf
  obtain ⟨x, hx, rfl, hu, _⟩ := h.lists.mem d (by omega) o h3
  rw [sizeAt_mem h.good hx] at h4
  have := (h.good.mem hx).1
  exact ⟨x, hx, rfl, hu, h4, by omega⟩
/-- None is found: none has so many bytes. -/
theorem findL_none {b : List UInt8} {bs : List Blk} {ls : Nat → List Nat} (h : Right b bs ls) {size : Nat} (hs : isSize size = true) (hf : findL bs ls size = none) {x : Blk} (hx : x ∈ bs) (hu : x.used = false) : x.size < size := by
  have hc := clsN_lt22 hs
  have hxs := (h.good.mem hx).2.1
  have hxc := clsN_lt hxs
  by_cases hle : size ≤ x.size
  · have hm := clsN_mono hs (blkAt_isSize hxs) hle
    have := findIn_none hf (clsN x.size) hm (by omega) x.off (h.cover x hx hu)
    rw [sizeAt_mem h.good hx] at this
    omega
  · omega
end Go.Own

/- The lists made anew, block by block. No program. -/
namespace Go.Own
theorem Tile.offs {b : List UInt8} : ∀ {r : List Blk} {o : Nat}, Tile b o r → r.Pairwise fun u v => u.off ≠ v.off
  | [], _, _ => List.Pairwise.nil
  | u :: r, o, h => by
    refine List.Pairwise.cons (fun v hv => ?_) (Tile.offs h.2)
    have h2 := blkAt_some h.1
    have h3 := h.2.mem hv
    omega
end Go.Own

/- What a well formed number is. -/
namespace Go.Own
open Go
theorem wfU64 {a : Int} (h : (Lit.int .u64 a).wf = true) : 0 ≤ a ∧ a ≤ 18446744073709551615 := by
  simp [Lit.wf, IntKind.min, IntKind.max, IntKind.bits, IntKind.signed] at h; omega
theorem wfI64 {a : Int} (h : (Lit.int .i64 a).wf = true) : -9223372036854775808 ≤ a ∧ a ≤ 9223372036854775807 := by
  simp [Lit.wf, IntKind.min, IntKind.max, IntKind.bits, IntKind.signed] at h; omega
end Go.Own

/- Cells of a slice of structs; the statements' Pick. -/
namespace Go.Own
open Go Go.RowKit
theorem flat_at {α : Type} (f : α → List Value) (z : Nat) (hz : ∀ d, (f d).length = z) : ∀ (ds : List α) (k : Nat) (hk : k < ds.length) (j : Nat), j < z → (ds.map f).flatten[k * z + j]? = (f ds[k])[j]?
  | [], k, hk, _, _ => absurd hk (Nat.not_lt_zero _)
  | d :: ds, 0, _, j, hj => by
    rw [List.map_cons, List.flatten_cons, Nat.zero_mul, Nat.zero_add, List.getElem?_append_left (by rw [hz]; exact hj)]; rfl
  | d :: ds, k + 1, hk, j, hj => by
    rw [List.map_cons, List.flatten_cons, Nat.succ_mul, List.getElem?_append_right (by rw [hz]; omega), hz, show k * z + z + j - z = k * z + j by omega]
    exact flat_at f z hz ds k (by simpa using hk) j hj
/-- The cells of a slice of structs, each as it is addressed. -/
theorem sl_at {α : Type} {f : α → List Value} {z : Nat} {w : World} {a : Option Addr} {n c : Nat} {ds : List α} (h : Sl w a n c z (ds.map f).flatten) (hz : ∀ d, (f d).length = z) (h0 : 0 < z) (k : Nat) (hk : k < ds.length) :
    ∃ b o, a = some ⟨b, o, none⟩ ∧ ∀ j v, (f ds[k])[j]? = some v → w.cell? ⟨b, o + k * z + j, none⟩ = some v := by
  have h1 := flat_at f z hz ds k hk 0 h0
  have h2 : (f ds[k])[0]? = some ((f ds[k])[0]'(by rw [hz]; exact h0)) := List.getElem?_eq_getElem _
  obtain ⟨b, o, rfl, _⟩ := h.cells _ _ (h1.trans h2)
  refine ⟨b, o, rfl, fun j v hv => ?_⟩
  have hj : j < z := by have := (List.getElem?_eq_some_iff.1 hv).1; rw [hz] at this; exact this
  obtain ⟨b', o', e, hc⟩ := h.cells _ _ ((flat_at f z hz ds k hk j hj).trans hv)
  cases e
  rw [Nat.add_assoc]; exact hc
end Go.Own
namespace Go.Proofs.Ytenbpbnffnodhaa
open Go Go.RowKit Go.Own
set_option linter.unusedVariables false
set_option maxRecDepth 100000
theorem law_Pick (w : World) (n b : Int) (h0 : -9223372036854775808 ≤ n) (h1 : n ≤ 9223372036854775807) (b0 : 0 < b) (b1 : b ≤ 4611686018427387904) :
    Calls Try.prog 29 #[.int .i64 n, .int .i64 b] w fun e w' => e = .returned (.int .i64 (n % b)) ∧ w = w' := by
  have hne : ¬ b = 0 := by omega
  have hbz : (b == 0) = false := by rw [beq_eq_false_iff_ne]; omega
  by_cases hn : 0 ≤ n
  · have ht : n.tmod b = n % b := Int.tmod_eq_emod_of_nonneg hn
    have hp := Int.emod_nonneg n hne
    have hlt := Int.emod_lt_of_pos n b0
    generalize n % b = q at *
    go_enter Try.func29, Try.ntmps29
    go_wp2
    go_ret
    exact ⟨rfl, rfl⟩
  · have hp := Int.emod_nonneg n hne
    have hlt := Int.emod_lt_of_pos n b0
    have ht : n.tmod b = if n % b = 0 then 0 else n % b - b := by
      rw [Int.tmod_eq_emod]
      by_cases hz : n % b = 0
      · have : b ∣ n := Int.dvd_of_emod_eq_zero hz
        simp [hz, this]
      · have : ¬ b ∣ n := fun h => hz (Int.emod_eq_zero_of_dvd h)
        rw [if_neg hz, if_neg (by simp [hn, this])]
        have : (b.natAbs : Int) = b := by omega
        rw [this]
    generalize n % b = q at *
    by_cases hz : q = 0
    · rw [if_pos hz] at ht
      subst hz
      go_enter Try.func29, Try.ntmps29
      go_wp2
      go_ret
      exact ⟨rfl, rfl⟩
    · rw [if_neg hz] at ht
      clear hz
      go_enter Try.func29, Try.ntmps29
      go_wp2
      go_ret
      exact ⟨rI (by omega), rfl⟩
end Go.Proofs.Ytenbpbnffnodhaa

/- The statements' Blocks: whether two lists of blocks are one. -/
namespace Go.Proofs.Ytenbpbnffnodhaa
open Go Go.RowKit Go.Own
set_option linter.unusedVariables false
set_option maxRecDepth 100000
theorem mid_keep {F : Nat → Prop} {w w' : World} (hk : Keep F w w') {b o : Nat} {v : Value} (hc : w.cell? ⟨b, o, none⟩ = some v) (hb : ¬ F b) : w'.cell? ⟨b, o, none⟩ = some v := by
  rw [cell_of_block (w := w) (p := ⟨b, o, none⟩) (hk.block b (World.block_lt_of_cell? w _ hc) hb)]; exact hc
set_option maxHeartbeats 4000000 in
theorem law_Blocks (w : World) (a : Option Addr) (c : Nat) (L : List Blk) (a2 : Option Addr) (c2 : Nat) (L2 : List Blk) (h1 : Sl w a L.length c 3 (L.map blC).flatten) (h2 : Sl w a2 L2.length c2 3 (L2.map blC).flatten) :
    Calls Try.prog 63 #[.slice a L.length c, .slice a2 L2.length c2] w fun e w' => e = .returned (.int .i64 (if L = L2 then 1 else 0)) ∧ Below w.heap.size w w' := by
  have p1 := h1.cap; have p2 := h1.room
  have q1 := h2.cap; have q2 := h2.room
  have H1 := Lib.hid h1; have H2 := Lib.hid h2
  clear h1 h2
  by_cases hl : L.length = L2.length
  · obtain ⟨R, hR⟩ : ∃ R : Int, R = (if L = L2 then 1 else 0) := ⟨_, rfl⟩
    rw [← hR]
    have HR := Lib.hid hR; have HLL := Lib.hid hl
    obtain ⟨N, hN⟩ : ∃ N, N = L.length := ⟨_, rfl⟩
    rw [← hl, ← hN]
    rw [← hN] at p1
    have HN := Lib.hid hN
    clear hR hl q1 hN
    go_enter Try.func63, Try.ntmps63
    go_wp2
    go_loopw [5] (fun vi wr => ∃ k : Nat, k ≤ N ∧ vi = .int .i64 k ∧ L.take k = L2.take k ∧ Below w.heap.size w wr) (fun vi _ => N - (intOf vi).toNat)
    case atStart => exact ⟨0, Nat.zero_le _, rfl, rfl, Below.refl _ _⟩
    case round =>
      obtain ⟨k, hk, rfl, ht, hb⟩ := hrel
      by_cases hlt : k < N
      · have l1 : k < L.length := by rw [← HN.out]; exact hlt
        have l2 : k < L2.length := by rw [← HLL.out]; exact l1
        obtain ⟨b1, o1, rfl, r1⟩ := sl_at H1.out blC_len (by decide) k l1
        obtain ⟨b2, o2, rfl, r2⟩ := sl_at H2.out blC_len (by decide) k l2
        have hx : L[k] = L2[k] ↔ L.take (k + 1) = L2.take (k + 1) := by
          rw [List.take_succ_eq_append_getElem l1, List.take_succ_eq_append_getElem l2, ht]
          constructor
          · intro h; rw [h]
          · intro h; exact List.singleton_inj.1 (List.append_cancel_left h)
        have hne : L[k] ≠ L2[k] → L ≠ L2 := fun h e => by subst e; exact h rfl
        generalize L[k] = x at *
        generalize L2[k] = y at *
        have x0 : w.cell? ⟨b1, o1 + k * 3, none⟩ = some (.int .i64 x.off) := r1 0 _ rfl
        have x1 : w.cell? ⟨b1, o1 + k * 3 + 1, none⟩ = some (.int .i64 x.size) := r1 1 _ rfl
        have x2 : w.cell? ⟨b1, o1 + k * 3 + 2, none⟩ = some (.bool x.used) := r1 2 _ rfl
        have y0 : w.cell? ⟨b2, o2 + k * 3, none⟩ = some (.int .i64 y.off) := r2 0 _ rfl
        have y1 : w.cell? ⟨b2, o2 + k * 3 + 1, none⟩ = some (.int .i64 y.size) := r2 1 _ rfl
        have y2 : w.cell? ⟨b2, o2 + k * 3 + 2, none⟩ = some (.bool y.used) := r2 2 _ rfl
        have kd := (Keep.of_below (F := fun _ => False) hb).drew
        have X0 := Lib.hid (mid_keep kd x0 (fun h => h)); have X1 := Lib.hid (mid_keep kd x1 (fun h => h)); have X2 := Lib.hid (mid_keep kd x2 (fun h => h))
        have Y0 := Lib.hid (mid_keep kd y0 (fun h => h)); have Y1 := Lib.hid (mid_keep kd y1 (fun h => h)); have Y2 := Lib.hid (mid_keep kd y2 (fun h => h))
        have HB := Lib.hid hb; have HX := Lib.hid hx; have HNE := Lib.hid hne
        have p4 : k < L2.length := l2
        clear x0 x1 x2 y0 y1 y2 hx hne hb ht kd r1 r2 l1 l2 p4
        by_cases hxy : x = y
        · subst hxy
          have HT := Lib.hid (HX.out.1 rfl)
          go_wp2
          refine flowe_begin (F := fun _ => False) hmixed 9 rfl (by repeat (first | with_reducible refine ps_then ?_ | with_reducible refine ps_block ?_ | with_reducible exact ps_body | refine ps_then ?_ | refine ps_block ?_ | exact ps_body)) (fun hps => ?_)
          simp only [List.replicate]
          have kk := (Keep.refl (fun _ => False) (wr)).drew
          refine flowe_take 0 (v := ?_) (a' := ?_) hps rfl (by kernel_rfl) rfl ?_ ?_ ?_
          rotate_left 2
          · intro w' hk; go_simp; try rfl
          · simp only [Act.put, List.setIfInBounds_toArray, List.set_cons_succ, List.set_cons_zero]; try rfl
          refine flowe_take 1 (v := ?_) (a' := ?_) hps rfl (by kernel_rfl) rfl ?_ ?_ ?_
          rotate_left 2
          · intro w' hk; go_simp; try rfl
          · simp only [Act.put, List.setIfInBounds_toArray, List.set_cons_succ, List.set_cons_zero]; try rfl
          refine flowe_take 2 (v := ?_) (a' := ?_) hps rfl (by kernel_rfl) rfl ?_ ?_ ?_
          rotate_left 2
          · intro w' hk; go_simp; try rfl
          · simp only [Act.put, List.setIfInBounds_toArray, List.set_cons_succ, List.set_cons_zero]; try rfl
          refine flowe_take 3 (v := ?_) (a' := ?_) hps rfl (by kernel_rfl) rfl ?_ ?_ ?_
          rotate_left 2
          · intro w' hk; have c0 := mid_keep hk X0.out (fun h => h); have c1 := mid_keep hk X1.out (fun h => h); have c2 := mid_keep hk X2.out (fun h => h); go_simp; try rfl
          · simp only [Act.put, List.setIfInBounds_toArray, List.set_cons_succ, List.set_cons_zero]; try rfl
          refine flowe_take 4 (v := ?_) (a' := ?_) hps rfl (by kernel_rfl) rfl ?_ ?_ ?_
          rotate_left 2
          · intro w' hk; go_simp; try rfl
          · simp only [Act.put, List.setIfInBounds_toArray, List.set_cons_succ, List.set_cons_zero]; try rfl
          refine flowe_take 5 (v := ?_) (a' := ?_) hps rfl (by kernel_rfl) rfl ?_ ?_ ?_
          rotate_left 2
          · intro w' hk; go_simp; try rfl
          · simp only [Act.put, List.setIfInBounds_toArray, List.set_cons_succ, List.set_cons_zero]; try rfl
          refine flowe_take 6 (v := ?_) (a' := ?_) hps rfl (by kernel_rfl) rfl ?_ ?_ ?_
          rotate_left 2
          · intro w' hk; go_simp; try rfl
          · simp only [Act.put, List.setIfInBounds_toArray, List.set_cons_succ, List.set_cons_zero]; try rfl
          refine flowe_take 7 (v := ?_) (a' := ?_) hps rfl (by kernel_rfl) rfl ?_ ?_ ?_
          rotate_left 2
          · intro w' hk; have c0 := mid_keep hk Y0.out (fun h => h); have c1 := mid_keep hk Y1.out (fun h => h); have c2 := mid_keep hk Y2.out (fun h => h); go_simp; try rfl
          · simp only [Act.put, List.setIfInBounds_toArray, List.set_cons_succ, List.set_cons_zero]; try rfl
          refine flowe_take 8 (v := ?_) (a' := ?_) hps rfl (by kernel_rfl) rfl ?_ ?_ ?_
          rotate_left 2
          · intro w' hk; go_simp; try rfl
          · simp only [Act.put, List.setIfInBounds_toArray, List.set_cons_succ, List.set_cons_zero]; try rfl
          refine flowe_done hps (by kernel_rfl) ?_
          have HB2 := Lib.hid (HB.out.trans ((kk.below (Nat.le_refl _) fun _ _ h => h).mono HB.out.size))
          clear kk
          go_wp2
          exact ⟨⟨k + 1, hlt, by go_num, HT.out, HB2.out⟩, by simp [intOf]; omega⟩
        · have HXY := Lib.hid hxy
          by_cases d1 : x.off = y.off
          · rw [← d1] at Y0
            by_cases d2 : x.size = y.size
            · have d3 : y.used = !x.used := by
                have hu : x.used ≠ y.used := fun h => hxy (by cases x; cases y; simp only at d1 d2 h; subst d1; subst d2; subst h; rfl)
                revert hu; cases x.used <;> cases y.used <;> simp
              rw [← d2] at Y1
              rw [d3] at Y2
              clear d1 d2 d3 hxy
              go_wp2
              refine flowe_begin (F := fun _ => False) hmixed 9 rfl (by repeat (first | with_reducible refine ps_then ?_ | with_reducible refine ps_block ?_ | with_reducible exact ps_body | refine ps_then ?_ | refine ps_block ?_ | exact ps_body)) (fun hps => ?_)
              simp only [List.replicate]
              have kk := (Keep.refl (fun _ => False) (wr)).drew
              refine flowe_take 0 (v := ?_) (a' := ?_) hps rfl (by kernel_rfl) rfl ?_ ?_ ?_
              rotate_left 2
              · intro w' hk; go_simp; try rfl
              · simp only [Act.put, List.setIfInBounds_toArray, List.set_cons_succ, List.set_cons_zero]; try rfl
              refine flowe_take 1 (v := ?_) (a' := ?_) hps rfl (by kernel_rfl) rfl ?_ ?_ ?_
              rotate_left 2
              · intro w' hk; go_simp; try rfl
              · simp only [Act.put, List.setIfInBounds_toArray, List.set_cons_succ, List.set_cons_zero]; try rfl
              refine flowe_take 2 (v := ?_) (a' := ?_) hps rfl (by kernel_rfl) rfl ?_ ?_ ?_
              rotate_left 2
              · intro w' hk; go_simp; try rfl
              · simp only [Act.put, List.setIfInBounds_toArray, List.set_cons_succ, List.set_cons_zero]; try rfl
              refine flowe_take 3 (v := ?_) (a' := ?_) hps rfl (by kernel_rfl) rfl ?_ ?_ ?_
              rotate_left 2
              · intro w' hk; have c0 := mid_keep hk X0.out (fun h => h); have c1 := mid_keep hk X1.out (fun h => h); have c2 := mid_keep hk X2.out (fun h => h); go_simp; try rfl
              · simp only [Act.put, List.setIfInBounds_toArray, List.set_cons_succ, List.set_cons_zero]; try rfl
              refine flowe_take 4 (v := ?_) (a' := ?_) hps rfl (by kernel_rfl) rfl ?_ ?_ ?_
              rotate_left 2
              · intro w' hk; go_simp; try rfl
              · simp only [Act.put, List.setIfInBounds_toArray, List.set_cons_succ, List.set_cons_zero]; try rfl
              refine flowe_take 5 (v := ?_) (a' := ?_) hps rfl (by kernel_rfl) rfl ?_ ?_ ?_
              rotate_left 2
              · intro w' hk; go_simp; try rfl
              · simp only [Act.put, List.setIfInBounds_toArray, List.set_cons_succ, List.set_cons_zero]; try rfl
              refine flowe_take 6 (v := ?_) (a' := ?_) hps rfl (by kernel_rfl) rfl ?_ ?_ ?_
              rotate_left 2
              · intro w' hk; go_simp; try rfl
              · simp only [Act.put, List.setIfInBounds_toArray, List.set_cons_succ, List.set_cons_zero]; try rfl
              refine flowe_take 7 (v := ?_) (a' := ?_) hps rfl (by kernel_rfl) rfl ?_ ?_ ?_
              rotate_left 2
              · intro w' hk; have c0 := mid_keep hk Y0.out (fun h => h); have c1 := mid_keep hk Y1.out (fun h => h); have c2 := mid_keep hk Y2.out (fun h => h); go_simp; try rfl
              · simp only [Act.put, List.setIfInBounds_toArray, List.set_cons_succ, List.set_cons_zero]; try rfl
              refine flowe_take 8 (v := ?_) (a' := ?_) hps rfl (by kernel_rfl) rfl ?_ ?_ ?_
              rotate_left 2
              · intro w' hk; go_simp; try rfl
              · simp only [Act.put, List.setIfInBounds_toArray, List.set_cons_succ, List.set_cons_zero]; try rfl
              refine flowe_done hps (by kernel_rfl) ?_
              have HB2 := Lib.hid (HB.out.trans ((kk.below (Nat.le_refl _) fun _ _ h => h).mono HB.out.size))
              clear kk
              go_wp2
              go_ret
              exact ⟨by rw [HR.out, if_neg (HNE.out HXY.out)]; rfl, HB2.out⟩
            · have d4 : ¬ ((x.size : Int) = (y.size : Int)) := by omega
              clear d1 d2 hxy
              go_wp2
              refine flowe_begin (F := fun _ => False) hmixed 9 rfl (by repeat (first | with_reducible refine ps_then ?_ | with_reducible refine ps_block ?_ | with_reducible exact ps_body | refine ps_then ?_ | refine ps_block ?_ | exact ps_body)) (fun hps => ?_)
              simp only [List.replicate]
              have kk := (Keep.refl (fun _ => False) (wr)).drew
              refine flowe_take 0 (v := ?_) (a' := ?_) hps rfl (by kernel_rfl) rfl ?_ ?_ ?_
              rotate_left 2
              · intro w' hk; go_simp; try rfl
              · simp only [Act.put, List.setIfInBounds_toArray, List.set_cons_succ, List.set_cons_zero]; try rfl
              refine flowe_take 1 (v := ?_) (a' := ?_) hps rfl (by kernel_rfl) rfl ?_ ?_ ?_
              rotate_left 2
              · intro w' hk; go_simp; try rfl
              · simp only [Act.put, List.setIfInBounds_toArray, List.set_cons_succ, List.set_cons_zero]; try rfl
              refine flowe_take 2 (v := ?_) (a' := ?_) hps rfl (by kernel_rfl) rfl ?_ ?_ ?_
              rotate_left 2
              · intro w' hk; go_simp; try rfl
              · simp only [Act.put, List.setIfInBounds_toArray, List.set_cons_succ, List.set_cons_zero]; try rfl
              refine flowe_take 3 (v := ?_) (a' := ?_) hps rfl (by kernel_rfl) rfl ?_ ?_ ?_
              rotate_left 2
              · intro w' hk; have c0 := mid_keep hk X0.out (fun h => h); have c1 := mid_keep hk X1.out (fun h => h); have c2 := mid_keep hk X2.out (fun h => h); go_simp; try rfl
              · simp only [Act.put, List.setIfInBounds_toArray, List.set_cons_succ, List.set_cons_zero]; try rfl
              refine flowe_take 4 (v := ?_) (a' := ?_) hps rfl (by kernel_rfl) rfl ?_ ?_ ?_
              rotate_left 2
              · intro w' hk; go_simp; try rfl
              · simp only [Act.put, List.setIfInBounds_toArray, List.set_cons_succ, List.set_cons_zero]; try rfl
              refine flowe_take 5 (v := ?_) (a' := ?_) hps rfl (by kernel_rfl) rfl ?_ ?_ ?_
              rotate_left 2
              · intro w' hk; go_simp; try rfl
              · simp only [Act.put, List.setIfInBounds_toArray, List.set_cons_succ, List.set_cons_zero]; try rfl
              refine flowe_take 6 (v := ?_) (a' := ?_) hps rfl (by kernel_rfl) rfl ?_ ?_ ?_
              rotate_left 2
              · intro w' hk; go_simp; try rfl
              · simp only [Act.put, List.setIfInBounds_toArray, List.set_cons_succ, List.set_cons_zero]; try rfl
              refine flowe_take 7 (v := ?_) (a' := ?_) hps rfl (by kernel_rfl) rfl ?_ ?_ ?_
              rotate_left 2
              · intro w' hk; have c0 := mid_keep hk Y0.out (fun h => h); have c1 := mid_keep hk Y1.out (fun h => h); have c2 := mid_keep hk Y2.out (fun h => h); go_simp; try rfl
              · simp only [Act.put, List.setIfInBounds_toArray, List.set_cons_succ, List.set_cons_zero]; try rfl
              refine flowe_take 8 (v := ?_) (a' := ?_) hps rfl (by kernel_rfl) rfl ?_ ?_ ?_
              rotate_left 2
              · intro w' hk; go_simp; try rfl
              · simp only [Act.put, List.setIfInBounds_toArray, List.set_cons_succ, List.set_cons_zero]; try rfl
              refine flowe_done hps (by kernel_rfl) ?_
              have HB2 := Lib.hid (HB.out.trans ((kk.below (Nat.le_refl _) fun _ _ h => h).mono HB.out.size))
              clear kk
              go_wp2
              go_ret
              exact ⟨by rw [HR.out, if_neg (HNE.out HXY.out)]; rfl, HB2.out⟩
          · have d4 : ¬ ((x.off : Int) = (y.off : Int)) := by omega
            clear d1 hxy
            go_wp2
            refine flowe_begin (F := fun _ => False) hmixed 9 rfl (by repeat (first | with_reducible refine ps_then ?_ | with_reducible refine ps_block ?_ | with_reducible exact ps_body | refine ps_then ?_ | refine ps_block ?_ | exact ps_body)) (fun hps => ?_)
            simp only [List.replicate]
            have kk := (Keep.refl (fun _ => False) (wr)).drew
            refine flowe_take 0 (v := ?_) (a' := ?_) hps rfl (by kernel_rfl) rfl ?_ ?_ ?_
            rotate_left 2
            · intro w' hk; go_simp; try rfl
            · simp only [Act.put, List.setIfInBounds_toArray, List.set_cons_succ, List.set_cons_zero]; try rfl
            refine flowe_take 1 (v := ?_) (a' := ?_) hps rfl (by kernel_rfl) rfl ?_ ?_ ?_
            rotate_left 2
            · intro w' hk; go_simp; try rfl
            · simp only [Act.put, List.setIfInBounds_toArray, List.set_cons_succ, List.set_cons_zero]; try rfl
            refine flowe_take 2 (v := ?_) (a' := ?_) hps rfl (by kernel_rfl) rfl ?_ ?_ ?_
            rotate_left 2
            · intro w' hk; go_simp; try rfl
            · simp only [Act.put, List.setIfInBounds_toArray, List.set_cons_succ, List.set_cons_zero]; try rfl
            refine flowe_take 3 (v := ?_) (a' := ?_) hps rfl (by kernel_rfl) rfl ?_ ?_ ?_
            rotate_left 2
            · intro w' hk; have c0 := mid_keep hk X0.out (fun h => h); have c1 := mid_keep hk X1.out (fun h => h); have c2 := mid_keep hk X2.out (fun h => h); go_simp; try rfl
            · simp only [Act.put, List.setIfInBounds_toArray, List.set_cons_succ, List.set_cons_zero]; try rfl
            refine flowe_take 4 (v := ?_) (a' := ?_) hps rfl (by kernel_rfl) rfl ?_ ?_ ?_
            rotate_left 2
            · intro w' hk; go_simp; try rfl
            · simp only [Act.put, List.setIfInBounds_toArray, List.set_cons_succ, List.set_cons_zero]; try rfl
            refine flowe_take 5 (v := ?_) (a' := ?_) hps rfl (by kernel_rfl) rfl ?_ ?_ ?_
            rotate_left 2
            · intro w' hk; go_simp; try rfl
            · simp only [Act.put, List.setIfInBounds_toArray, List.set_cons_succ, List.set_cons_zero]; try rfl
            refine flowe_take 6 (v := ?_) (a' := ?_) hps rfl (by kernel_rfl) rfl ?_ ?_ ?_
            rotate_left 2
            · intro w' hk; go_simp; try rfl
            · simp only [Act.put, List.setIfInBounds_toArray, List.set_cons_succ, List.set_cons_zero]; try rfl
            refine flowe_take 7 (v := ?_) (a' := ?_) hps rfl (by kernel_rfl) rfl ?_ ?_ ?_
            rotate_left 2
            · intro w' hk; have c0 := mid_keep hk Y0.out (fun h => h); have c1 := mid_keep hk Y1.out (fun h => h); have c2 := mid_keep hk Y2.out (fun h => h); go_simp; try rfl
            · simp only [Act.put, List.setIfInBounds_toArray, List.set_cons_succ, List.set_cons_zero]; try rfl
            refine flowe_take 8 (v := ?_) (a' := ?_) hps rfl (by kernel_rfl) rfl ?_ ?_ ?_
            rotate_left 2
            · intro w' hk; go_simp; try rfl
            · simp only [Act.put, List.setIfInBounds_toArray, List.set_cons_succ, List.set_cons_zero]; try rfl
            refine flowe_done hps (by kernel_rfl) ?_
            have HB2 := Lib.hid (HB.out.trans ((kk.below (Nat.le_refl _) fun _ _ h => h).mono HB.out.size))
            clear kk
            go_wp2
            go_ret
            exact ⟨by rw [HR.out, if_neg (HNE.out HXY.out)]; rfl, HB2.out⟩
      · have hkN : k = N := by omega
        subst hkN
        have hLL : L = L2 := by
          rw [List.take_of_length_le (by rw [HN.out]; exact Nat.le_refl _), List.take_of_length_le (by rw [HN.out, HLL.out]; exact Nat.le_refl _)] at ht
          exact ht
        have HB := Lib.hid hb; have HE := Lib.hid hLL
        clear ht hb hLL
        go_wp2
        go_ret
        refine ⟨?_, HB.out⟩
        rw [HR.out, if_pos HE.out]
        rfl
  · have hne : L ≠ L2 := fun h => hl (by rw [h])
    rw [if_neg hne]
    have h3 : ¬ (L.length : Int) = (L2.length : Int) := by omega
    clear hl
    go_enter Try.func63, Try.ntmps63
    go_wp2
    go_ret
    exact ⟨rfl, Below.refl _ _⟩
end Go.Proofs.Ytenbpbnffnodhaa

/- Words for the statements' walks: what comes in as lists of numbers, what lies in lists of blocks; an operation that stores a block. -/
namespace Go.Own
open Go Go.RowKit
theorem St.argCell {w0 w : World} {l : List Ob} (h : St w0.heap.size w0 w l) {b o : Nat} {v : Value} (hc : w0.cell? ⟨b, o, none⟩ = some v) : w.cell? ⟨b, o, none⟩ = some v := by
  have hb := World.block_lt_of_cell? w0 _ hc
  rw [cell_of_block (w := w0) (p := ⟨b, o, none⟩) (h.keep.block b hb (by show ¬ w0.heap.size ≤ b; simp only at hb; omega))]; exact hc
theorem Is.len {w : World} {k : IntKind} {a : Option Addr} {n c : Nat} {l : List Int} (h : Is w k a n c l) : n = l.length := by simpa using (Sl.len h.1).symm
theorem Ts.len {w : World} {a : Option Addr} {n c : Nat} {l : List Bool} (h : Ts w a n c l) : n = l.length := by simpa using (Sl.len h).symm
theorem Is.at {w : World} {k : IntKind} {a : Option Addr} {n c : Nat} {l : List Int} (h : Is w k a n c l) (i : Nat) (hi : i < l.length) :
    ∃ b o, a = some ⟨b, o, none⟩ ∧ w.cell? ⟨b, o + i, none⟩ = some (.int k l[i]) := Sl.cells h.1 i _ (by simp [hi])
theorem Ts.at {w : World} {a : Option Addr} {n c : Nat} {l : List Bool} (h : Ts w a n c l) (i : Nat) (hi : i < l.length) :
    ∃ b o, a = some ⟨b, o, none⟩ ∧ w.cell? ⟨b, o + i, none⟩ = some (.bool l[i]) := Sl.cells h i _ (by simp [hi])
end Go.Own
namespace Go.Proofs.Ytenbpbnffnodhaa
open Go Go.RowKit Go.Own
set_option linter.unusedVariables false
section
variable {B : Nat} {w0 w : World} {l : List Ob}
/-- A list of blocks of one's own: its value, its cells. -/
theorem bls_slice (h : St B w0 w l) {i : Nat} {v : Value} {L : List Blk} (hi : l[i]? = some (BlsO v L)) : ∃ a c, v = .slice a L.length c ∧ Sl w a L.length c 3 (L.map blC).flatten := by
  obtain ⟨a, c, e, _, hs⟩ := Sl.of_owned (h.own hi)
  exact ⟨a, c, e, hs⟩
theorem bls_sl (h : St B w0 w l) {i : Nat} {a : Option Addr} {n c : Nat} {L : List Blk} (hi : l[i]? = some (BlsO (.slice a n c) L)) : n = L.length ∧ Sl w a L.length c 3 (L.map blC).flatten := by
  obtain ⟨a, c, e, hs⟩ := bls_slice h hi
  cases e; exact ⟨rfl, hs⟩
/-- One of them, as its cells lie there. -/
theorem bl_at {a : Option Addr} {n c : Nat} {L : List Blk} (h : Sl w a n c 3 (L.map blC).flatten) (k : Nat) (hk : k < L.length) : ∃ b o, a = some ⟨b, o, none⟩ ∧ w.rangeAt b (o + k * 3) (blC L[k]) :=
  sl_at h blC_len (by decide) k hk
theorem bl_cells {b o : Nat} {x : Blk} (hr : w.rangeAt b o (blC x)) : w.cell? ⟨b, o, none⟩ = some (.int .i64 x.off) ∧ w.cell? ⟨b, o + 1, none⟩ = some (.int .i64 x.size) ∧ w.cell? ⟨b, o + 2, none⟩ = some (.bool x.used) :=
  ⟨hr 0 _ rfl, hr 1 _ rfl, hr 2 _ rfl⟩
section
variable {ops : Array Oper} {rest : List Oper} {o : Oper} {a : Act} {Q : Exit → Act → World → Prop} {K : Act → World → Prop}
/-- 'v = l[k]'. -/
theorem bl_mid (hgd : Region.wanted o (yielded ops a.tmps) = true) (x : Operand) (ho : o.op = .load 77 x) (b o' : Nat) (hx : a.eval x = .pointer (some ⟨b, o', none⟩)) (y : Blk) (hr : w.rangeAt b o' (blC y))
    (hk : wpList Try.prog ops Q rest (a.put o.dst (.agg #[.int .i64 y.off, .int .i64 y.size, .bool y.used])) w) : wpList Try.prog ops Q (o :: rest) a w :=
  at_wanted hgd fun _ hK => wp_load_mid 77 x ho b o' hx (blC y) _ hr Try.underlying77 rfl size_bl (hK _ _ hk)
end
end
end Go.Proofs.Ytenbpbnffnodhaa

/- The lists emptied, and made anew: the program's Clear and Rebuild. -/
namespace Go.Own
end Go.Own
namespace Go.Proofs.Ytenbpbnffnodhaa
open Go Go.RowKit Go.Own
set_option linter.unusedVariables false
set_option maxRecDepth 100000
section
variable {B : Nat} {w0 w : World} {l : List Ob} {i p bs cp : Nat} {b : List UInt8}
end
end Go.Proofs.Ytenbpbnffnodhaa

/- Which free block is found: the program's Find. -/
namespace Go.Own
theorem findFrom_succ {b : List UInt8} {S f c : Nat} : findFrom b S (f + 1) c = match allB b c with
    | none => none
    | some l => match firstFit b S l with
      | some o => some o
      | none => findFrom b S f (c + 1) := rfl
theorem firstFit_cons {b : List UInt8} {S o : Nat} {l : List Nat} : firstFit b S (o :: l) = match blkAt b o with
    | some x => if S ≤ x.size then some o else firstFit b S l
    | none => firstFit b S l := rfl
end Go.Own
namespace Go.Proofs.Ytenbpbnffnodhaa
open Go Go.RowKit Go.Own
set_option linter.unusedVariables false
set_option maxRecDepth 100000
/-- What Find tells. -/
def fndV (x : Option Nat) : Value := match x with | none => .tuple #[.int .i64 0, .iface 183 (.int .i64 3)] | some o => .tuple #[.int .i64 (o : Nat), .nilIface]
section
variable {B : Nat} {w0 w : World} {l : List Ob} {i p bs cp : Nat} {b : List UInt8}
set_option maxHeartbeats 8000000 in
theorem fit_Find (h : St B w0 w (l.set i (ArT p ⟨bs, cp, b⟩))) (hil : i < l.length) (S : Nat) (hs : isSize (S : Int) = true) :
    Calls Try.prog 94 #[arP p, .int .i64 S] w fun e w' => e = .returned (fndV (findB b S)) ∧ St B w0 w' (l.set i (ArT p ⟨bs, cp, b⟩)) := by
  obtain ⟨hsm, hbs⟩ := ls_small h hil
  have hsz := (isSize_iff _).1 hs
  have kc0 := class_Class w (S : Int) (by omega) (by omega)
  have hcs := cls_size hs
  obtain ⟨C, hC⟩ : ∃ C : Nat, cls S = C := ⟨(cls S).toNat, by omega⟩
  have hF : findB b S = findFrom b S (22 - C) C := by unfold findB; rw [hC, Int.toNat_natCast]
  rw [hC] at kc0 hcs
  obtain ⟨R, hR⟩ : ∃ R, findB b S = R := ⟨_, rfl⟩
  rw [hR] at hF ⊢
  have KC := Lib.hid kc0
  have H := Lib.hid h; have HF := Lib.hid hF
  have d1 : decide ((C : Int) < 0) = false := decide_eq_false (by omega)
  have hC22 : C ≤ 22 := by omega
  clear kc0 hs h hF hC hR hcs
  go_enter Try.func94, Try.ntmps94
  go_wp2_with fail
  have kc := KC.out
  with_reducible refine kc.mono ?_
  clear kc
  rintro e w' ⟨rfl, rfl⟩
  go_wp2
  go_loopw [6] (fun vc wr => ∃ f c : Nat, vc = .int .i64 c ∧ c + f = 22 ∧ R = findFrom b S f c ∧ St B w0 wr (l.set i (ArT p ⟨bs, cp, b⟩))) (fun vc _ => 22 - (intOf vc).toNat)
  case atStart => exact ⟨22 - C, C, rfl, by omega, HF.out, H.out⟩
  case round =>
    obtain ⟨f, c, rfl, hcf, hR, hS⟩ := hrel
    cases f with
    | zero =>
      obtain rfl : c = 22 := by omega
      have HR := Lib.hid (show R = some 0 from hR); have HS := Lib.hid hS
      clear hR hS
      go_wp2
      go_ret2
      exact ⟨by rw [HR.out]; rfl, HS.out⟩
    | succ f =>
      have hc : c < 22 := by omega
      rw [findFrom_succ] at hR
      have ka := ls_All hS hil c hc
      have d2 : decide ((c : Int) < 22) = true := decide_eq_true (by omega)
      cases hA : allB b c with
      | none =>
        rw [hA] at hR
        rw [hA, show errA none = .iface 183 (.int .i64 3) from rfl] at ka
        have HR := Lib.hid (show R = none from hR); have KA := Lib.hid ka
        clear hR hS ka hA
        go_wp2_with fail
        have kc := KA.out
        with_reducible refine kc.mono ?_
        clear kc
        rintro e w4 ⟨v4', rfl, t4⟩
        have T4 := Lib.hid t4
        clear t4
        go_wp2
        go_ret2
        exact ⟨by rw [HR.out]; rfl, T4.out.tail⟩
      | some L =>
        rw [hA] at hR
        rw [hA, show errA (some L) = .nilIface from rfl, Option.getD_some] at ka
        simp only at hR
        have HR := Lib.hid hR; have KA := Lib.hid ka
        clear hR hS ka hA
        go_wp2_with fail
        have kc := KA.out
        with_reducible refine kc.mono ?_
        clear kc
        rintro e w4 ⟨v4', rfl, t4⟩
        have T4 := Lib.hid t4
        clear t4
        obtain ⟨a4, c4, e4, hs4⟩ := ints_slice T4.out (i := 0) rfl
        subst e4
        have hLb := Sl.cap hs4; have hLr := Sl.room hs4
        clear hs4
        go_wp2
        go_loopw [33] (fun vk wr => ∃ k : Nat, k ≤ L.length ∧ vk = .int .i64 k ∧ (R = match firstFit b S (L.drop k) with | some o => some o | none => findFrom b S f (c + 1)) ∧ St B w0 wr (IntsO (.slice a4 L.length c4) L :: l.set i (ArT p ⟨bs, cp, b⟩))) (fun vk _ => L.length - (intOf vk).toNat)
        case atStart => exact ⟨0, Nat.zero_le _, rfl, HR.out, T4.out⟩
        case round =>
          obtain ⟨k, hk, rfl, hR, hS⟩ := hrel
          clear T4 HR
          by_cases hlt : k < L.length
          · obtain ⟨a5, c5, e5, hs5⟩ := ints_slice hS (i := 0) rfl
            obtain ⟨bb, bo, e6, hcell⟩ := Sl.cells hs5 k (.int .i64 (L[k] : Nat)) (by simp [hlt])
            cases e5
            subst e6
            have d3 : decide ((k : Int) < (L.length : Int)) = true := decide_eq_true (by omega)
            rw [List.drop_eq_getElem_cons hlt, firstFit_cons] at hR
            have hcell : wr.cell? ⟨bb, bo + k, none⟩ = some (.int .i64 (L[k] : Nat)) := hcell
            generalize L[k] = O at *
            have kg := blk_Get hS (i := i + 1) (at_set hil _) (O : Int)
            rw [show ({ base := bs, cap := cp, b := b } : Ar).b = b from rfl, blkI_nat] at kg
            clear hs5 hS
            cases hb : blkAt b O with
            | none =>
              rw [hb] at hR
              simp only at hR
              rw [hb, show bkV none = .agg #[.int .i64 0, .int .i64 0, .bool false] from rfl, show errO none = .iface 183 (.int .i64 3) from rfl] at kg
              have HR := Lib.hid hR; have KG := Lib.hid kg
              clear hR kg hb
              go_wp2_with fail
              have kc := KG.out
              with_reducible refine kc.mono ?_
              clear kc
              rintro e w6 ⟨rfl, t6⟩
              have T6 := Lib.hid t6
              clear t6
              go_wp2_with (first | (refine bk_alloc T6.out rfl rfl ?_; intro g7 w7 h7; have T7 := Lib.hid h7; clear h7) | (refine bk_store T7.out 0 rfl rfl _ _ rfl rfl 0 0 false rfl ?_; intro w8 h8; have T8 := Lib.hid h8; clear h8 T7))
              exact ⟨⟨k + 1, hlt, by go_num, HR.out, T8.out.tail⟩, by simp [intOf]; omega⟩
            | some x =>
              rw [hb] at hR
              simp only at hR
              rw [hb, show bkV (some x) = .agg #[.int .i64 x.off, .int .i64 x.size, .bool x.used] from rfl, show errO (some x) = .nilIface from rfl] at kg
              have KG := Lib.hid kg
              clear kg hb
              by_cases hle : S ≤ x.size
              · have d4 : decide ((S : Int) ≤ (x.size : Int)) = true := decide_eq_true (by omega)
                rw [if_pos hle] at hR
                have HR := Lib.hid (show R = some O from hR)
                clear hR
                go_wp2_with fail
                have kc := KG.out
                with_reducible refine kc.mono ?_
                clear kc
                rintro e w6 ⟨rfl, t6⟩
                have T6 := Lib.hid t6
                clear t6
                go_wp2_with (first | (refine bk_alloc T6.out rfl rfl ?_; intro g7 w7 h7; have T7 := Lib.hid h7; clear h7) | (refine bk_store T7.out 0 rfl rfl _ _ rfl rfl x.off x.size x.used rfl ?_; intro w8 h8; have T8 := Lib.hid h8; clear h8 T7; have k1 : w8.cell? ⟨g7, 1, none⟩ = some (.int .i64 x.size) := (T8.out.row (i := 0) rfl).cell 1))
                go_ret2
                exact ⟨by rw [HR.out]; rfl, T8.out.tail.tail⟩
              · have d4 : decide ((S : Int) ≤ (x.size : Int)) = false := decide_eq_false (by omega)
                rw [if_neg hle] at hR
                have HR := Lib.hid hR
                clear hR
                go_wp2_with fail
                have kc := KG.out
                with_reducible refine kc.mono ?_
                clear kc
                rintro e w6 ⟨rfl, t6⟩
                have T6 := Lib.hid t6
                clear t6
                go_wp2_with (first | (refine bk_alloc T6.out rfl rfl ?_; intro g7 w7 h7; have T7 := Lib.hid h7; clear h7) | (refine bk_store T7.out 0 rfl rfl _ _ rfl rfl x.off x.size x.used rfl ?_; intro w8 h8; have T8 := Lib.hid h8; clear h8 T7; have k1 : w8.cell? ⟨g7, 1, none⟩ = some (.int .i64 x.size) := (T8.out.row (i := 0) rfl).cell 1))
                exact ⟨⟨k + 1, hlt, by go_num, HR.out, T8.out.tail⟩, by simp [intOf]; omega⟩
          · obtain rfl : k = L.length := by omega
            rw [List.drop_length] at hR
            have HR := Lib.hid (show R = findFrom b S f (c + 1) from hR); have HS := Lib.hid hS
            have d3 : decide ((L.length : Int) < (L.length : Int)) = false := decide_eq_false (by omega)
            clear hR hS
            go_wp2
            exact ⟨⟨f, c + 1, by go_num, by omega, HR.out, HS.out.tail⟩, by simp [intOf]; omega⟩
end
end Go.Proofs.Ytenbpbnffnodhaa
