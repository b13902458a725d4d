/- Texts of the proof of 'AllocPlays', part 5: words on memory, contracts of functions, plain laws. No condition. -/
import Derived.Test.YtenbpbnffnodhaaMgAllocPlays4
set_option linter.unusedSimpArgs false
set_option linter.unusedVariables false
/- The lists of free blocks: taken out, put in, told. No program. -/
namespace Go.Own
structure Lists (b : List UInt8) (bs : List Blk) (ls : Nat → List Nat) : Prop where
  w0 : numAt b 0 < 4194304
  bit : ∀ c, c < 22 → bitAt (numAt b 0) c = decide (ls c ≠ [])
  seg : ∀ c, c < 22 → ∃ z, Seg b 0 (numAt b (headO c)) (ls c) z 0
  mem : ∀ c, c < 22 → ∀ o ∈ ls c, ∃ x ∈ bs, x.off = o ∧ x.used = false ∧ cls x.size = c
  nodup : ∀ c, c < 22 → (ls c).Nodup
section
variable {b : List UInt8} {bs : List Blk} {ls : Nat → List Nat}
theorem Lists.place (h : Lists b bs ls) (ht : Good b bs) {c o : Nat} (hc : c < 22) (ho : o ∈ ls c) : 184 ≤ o ∧ o % 16 = 8 ∧ o + 32 ≤ b.length ∧ memberB b o c = true := by
  obtain ⟨x, hx, rfl, hu, hcl⟩ := h.mem c hc o ho
  have h1 := ht.mem hx
  have h2 := blkAt_some h1.2.1
  refine ⟨h1.1, h2.2.2.1, by omega, ?_⟩
  unfold memberB
  rw [h1.2.1]
  simp [hu, hcl]
theorem Lists.sep (h : Lists b bs ls) (ht : Good b bs) {c d o : Nat} (hc : c < 22) (hd : d < 22) (h1 : o ∈ ls c) (h2 : o ∈ ls d) : c = d := by
  obtain ⟨x, hx, e1, _, h3⟩ := h.mem c hc o h1
  obtain ⟨y, hy, e2, _, h4⟩ := h.mem d hd o h2
  have g1 := (ht.mem hx).2.1
  have g2 := (ht.mem hy).2.1
  rw [e1] at g1
  rw [e2, g1] at g2
  simp only [Option.some.injEq] at g2
  subst g2
  omega
theorem nodup_len : ∀ (n : Nat) (l : List Nat), l.Nodup → (∀ x ∈ l, x < n) → l.length ≤ n
  | 0, l, _, h => by
    cases l with
    | nil => exact Nat.le_refl _
    | cons a l => have := h a (List.mem_cons_self ..); omega
  | n + 1, l, hn, h => by
    by_cases hm : n ∈ l
    · have := nodup_len n (l.erase n) (hn.erase n) fun x hx => by
        have h1 := h x (List.mem_of_mem_erase hx)
        have h2 : x ≠ n := fun e => by subst e; exact (hn.not_mem_erase) hx
        omega
      rw [List.length_erase_of_mem hm] at this
      omega
    · have := nodup_len n l hn fun x hx => by
        have h1 := h x hx
        have h2 : x ≠ n := fun e => by subst e; exact hm hx
        omega
      omega
theorem Lists.short (h : Lists b bs ls) (ht : Good b bs) (hb : b.length ≤ 16384) {c : Nat} (hc : c < 22) : (ls c).length ≤ 1024 := by
  have hn : ((ls c).map (· / 16)).Nodup := by
    have h1 := h.nodup c hc
    refine List.Pairwise.map _ (fun a b h => h) ?_
    refine List.Pairwise.imp_of_mem (R := fun a b => a ≠ b) (fun {x y} hx hy hne => ?_) h1
    have := h.place ht hc hx
    have := h.place ht hc hy
    omega
  have := nodup_len 1024 _ hn fun x hx => by
    obtain ⟨o, ho, rfl⟩ := List.mem_map.1 hx
    have := h.place ht hc ho
    omega
  simpa using this
theorem allFrom_seg {c : Nat} : ∀ (l : List Nat) (f at_ last z : Nat), Seg b last at_ l z 0 → (∀ o ∈ l, o ≠ 0 ∧ memberB b o c = true) → l.length ≤ f → allFrom b c f at_ last = some l
  | [], f, at_, last, z, h, _, _ => by
    have : at_ = 0 := h.2.symm
    subst this
    cases f <;> rfl
  | o :: l, 0, at_, last, z, h, _, hl => by simp at hl
  | o :: l, f + 1, at_, last, z, h, hm, hl => by
    obtain ⟨rfl, h2, h3⟩ := h
    have h4 := hm at_ (List.mem_cons_self ..)
    unfold allFrom
    rw [if_neg h4.1, if_neg (by rw [h4.2, h2]; simp), allFrom_seg l f _ _ z h3 (fun o ho => hm o (List.mem_cons_of_mem _ ho)) (by simpa using hl)]
    rfl
theorem Lists.head (h : Lists b bs ls) {c : Nat} (hc : c < 22) : numAt b (headO c) = (ls c).headD 0 := by
  obtain ⟨z, hz⟩ := h.seg c hc
  exact hz.head
theorem Lists.headNe (h : Lists b bs ls) (ht : Good b bs) {c : Nat} (hc : c < 22) : numAt b (headO c) ≠ 0 ↔ ls c ≠ [] := by
  rw [h.head hc]
  cases hl : ls c with
  | nil => simp
  | cons o l =>
    have := h.place ht hc (o := o) (by rw [hl]; exact List.mem_cons_self ..)
    simp; omega
theorem Lists.all (h : Lists b bs ls) (ht : Good b bs) (hl : 184 ≤ b.length) (hb : b.length ≤ 16384) {c : Nat} (hc : c < 22) : allB b c = some (ls c) := by
  obtain ⟨z, hz⟩ := h.seg c hc
  have h1 := h.headNe ht hc
  unfold allB
  rw [if_neg (by omega), if_neg (by rw [h.bit c hc]; simp [h1]), allFrom_seg (ls c) 1024 _ 0 z hz (fun o ho => by have := h.place ht hc ho; exact ⟨by omega, this.2.2.2⟩) (h.short ht hb hc)]
end
theorem markB_num {b : List UInt8} {c : Nat} (hb : 8 ≤ b.length) (hc : c < 22) (q : Nat) (hq : q % 8 = 0) : numAt (markB b c) q = if q = 0 then setBit (numAt b 0) c (decide (numAt b (headO c) ≠ 0)) else numAt b q := by
  unfold markB
  rw [numAt_lay b 0 q _ (by omega) (setBit_lt64 (numAt_lt b 0) hc) (by omega)]
theorem markB_touch {T : Nat → Prop} {b : List UInt8} {c : Nat} (hb : 8 ≤ b.length) (ht : T 0) : Touch T b (markB b c) := Touch.lay b 0 _ (by omega) ht
theorem Seg.lastNext {b : List UInt8} : ∀ {l : List Nat} {p q p' q' : Nat}, Seg b p q l p' q' → l ≠ [] → numAt b (p' + 8) = q'
  | [], _, _, _, _, _, h => absurd rfl h
  | [o], p, q, p', q', h, _ => by
    obtain ⟨_, _, h1, h2⟩ := h
    rw [h1, h2]
  | o :: o2 :: r, p, q, p', q', h, _ => Seg.lastNext h.2.2 (by simp)
theorem Seg.lastMem {b : List UInt8} : ∀ {l : List Nat} {p q p' q' : Nat}, Seg b p q l p' q' → l ≠ [] → p' ∈ l
  | [], _, _, _, _, _, h => absurd rfl h
  | [o], p, q, p', q', h, _ => by rw [h.2.2.1]; exact List.mem_cons_self ..
  | o :: o2 :: r, p, q, p', q', h, _ => List.mem_cons_of_mem _ (Seg.lastMem h.2.2 (by simp))
/-- The last one's next place is another one. -/
theorem Seg.retail {b b' : List UInt8} {q'' : Nat} : ∀ {l : List Nat} {p q p' q' : Nat}, Seg b p q l p' q' → l ≠ [] → l.Nodup → (∀ o ∈ l, numAt b' (o + 16) = numAt b (o + 16)) → (∀ o ∈ l, o ≠ p' → numAt b' (o + 8) = numAt b (o + 8)) → numAt b' (p' + 8) = q'' → Seg b' p q l p' q''
  | [], _, _, _, _, _, h, _, _, _, _ => absurd rfl h
  | [o], p, q, p', q', h, _, _, h1, h2, h3 => by
    obtain ⟨e1, e2, e3, e4⟩ := h
    subst e3
    exact ⟨e1, (h1 _ (List.mem_cons_self ..)).trans e2, rfl, h3.symm⟩
  | o :: o2 :: r, p, q, p', q', h, _, hn, h1, h2, h3 => by
    have hm := Seg.lastMem h.2.2 (by simp)
    have hne : o ≠ p' := fun e => (List.nodup_cons.1 hn).1 (e ▸ hm)
    refine ⟨h.1, (h1 o (List.mem_cons_self ..)).trans h.2.1, ?_⟩
    rw [h2 o (List.mem_cons_self ..) hne]
    exact Seg.retail h.2.2 (by simp) (List.nodup_cons.1 hn).2 (fun x hx => h1 x (List.mem_cons_of_mem _ hx)) (fun x hx => h2 x (List.mem_cons_of_mem _ hx)) h3
/-- What stands ahead of the first one is another one. -/
theorem Seg.rehead {b b' : List UInt8} {p2 : Nat} {l : List Nat} {p q z : Nat} (h : Seg b p q l z 0) (hn : l.Nodup) (h1 : ∀ o ∈ l, numAt b' (o + 8) = numAt b (o + 8)) (h2 : ∀ o ∈ l, o ≠ q → numAt b' (o + 16) = numAt b (o + 16)) (h3 : l ≠ [] → numAt b' (q + 16) = p2) : ∃ z', Seg b' p2 q l z' 0 := by
  cases l with
  | nil => exact ⟨p2, rfl, h.2⟩
  | cons o r =>
    obtain ⟨rfl, e2, e3⟩ := h
    have hr := (List.nodup_cons.1 hn).1
    refine ⟨z, rfl, h3 (by simp), ?_⟩
    rw [h1 q (List.mem_cons_self ..)]
    exact e3.frame fun x hx => ⟨h1 x (List.mem_cons_of_mem _ hx), h2 x (List.mem_cons_of_mem _ hx) fun e => hr (e ▸ hx)⟩
/-- A block is taken out of its list. -/
theorem takeB_lists {b : List UInt8} {bs : List Blk} {ls : Nat → List Nat} (h : Lists b bs ls) (ht : Good b bs) (hl : 184 ≤ b.length) {c o : Nat} (hc : c < 22) (ho : o ∈ ls c) :
    ∃ b', takeB b o = some b' ∧ Touch (LinkW bs) b b' ∧ Lists b' bs (fun d => if d = c then (ls c).filter (· ≠ o) else ls d) := by
  obtain ⟨x, hx, hxo, hxu, hxc⟩ := h.mem c hc o ho
  have hg := (ht.mem hx).2.1
  rw [hxo] at hg
  have hfree : freeB b o = some c := by unfold freeB; rw [hg]; simp [hxu, hxc]
  have hpl := fun {d q : Nat} (hd : d < 22) (hq : q ∈ ls d) => h.place ht hd hq
  have hlw := fun {d q : Nat} (hd : d < 22) (hq : q ∈ ls d) => h.mem d hd q hq
  have hsep := fun {d q : Nat} (hd : d < 22) (hq : q ∈ ls d) (hq' : q ∈ ls c) => h.sep ht hd hc hq hq'
  obtain ⟨z, hz⟩ := h.seg c hc
  have hnd := h.nodup c hc
  obtain ⟨l1, l2, hsplit⟩ := List.append_of_mem ho
  have hm1 : ∀ q ∈ l1, q ∈ ls c := fun q hq => by rw [hsplit]; exact List.mem_append_left _ hq
  have hm2 : ∀ q ∈ l2, q ∈ ls c := fun q hq => by rw [hsplit]; exact List.mem_append_right _ (List.mem_cons_of_mem _ hq)
  have hnd0 := hnd
  rw [hsplit] at hz hnd
  obtain ⟨m, k, s1, s2, s3, s4⟩ := Seg.append.1 hz
  subst s2
  have hnd1 : ∀ q ∈ l1, q ≠ k ∧ q ∉ l2 := fun q hq => by
    have := (List.nodup_append.1 hnd).2.2 q hq
    exact ⟨this k (List.mem_cons_self ..), fun h2 => this q (List.mem_cons_of_mem _ h2) rfl⟩
  have hnd2 : k ∉ l2 ∧ l2.Nodup := List.nodup_cons.1 (List.nodup_append.1 hnd).2.1
  have hnd3 : l1.Nodup := (List.nodup_append.1 hnd).1
  have hfil : (ls c).filter (· ≠ k) = l1 ++ l2 := by
    rw [hsplit, List.filter_append, List.filter_cons]
    have e1 : l1.filter (· ≠ k) = l1 := List.filter_eq_self.2 fun q hq => by simpa using (hnd1 q hq).1
    have e2 : l2.filter (· ≠ k) = l2 := List.filter_eq_self.2 fun q hq => by
      have : q ≠ k := fun e => hnd2.1 (e ▸ hq)
      simpa using this
    rw [e1, e2]; simp
  have hko := hpl hc ho
  have hm0 : l1 = [] → m = 0 ∧ numAt b (headO c) = k := fun e => by subst e; exact ⟨s1.1, s1.2.symm⟩
  have hmm : l1 ≠ [] → m ∈ l1 ∧ numAt b (m + 8) = k := fun e => ⟨s1.lastMem e, s1.lastNext e⟩
  have hmz : m = 0 ↔ l1 = [] := ⟨fun e => by
    rcases Classical.em (l1 = []) with h1 | h1
    · exact h1
    · have := hpl hc (hm1 _ (hmm h1).1); omega, fun e => (hm0 e).1⟩
  obtain ⟨n, hn⟩ : ∃ n, numAt b (k + 8) = n := ⟨_, rfl⟩
  rw [hn] at s4
  have hn0 : l2 = [] → n = 0 := fun e => by subst e; exact s4.2.symm
  have hnm : l2 ≠ [] → n ∈ l2 ∧ numAt b (n + 16) = k := fun e => by
    cases l2 with
    | nil => exact absurd rfl e
    | cons a r => obtain ⟨rfl, e2, _⟩ := s4; exact ⟨List.mem_cons_self .., e2⟩
  have hnz : n = 0 ↔ l2 = [] := ⟨fun e => by
    rcases Classical.em (l2 = []) with h1 | h1
    · exact h1
    · have := hpl hc (hm2 _ (hnm h1).1); omega, hn0⟩
  have hmb : m ≠ 0 → m ∈ l1 ∧ numAt b (m + 8) = k ∧ 184 ≤ m ∧ m % 16 = 8 ∧ m + 32 ≤ b.length ∧ memberB b m c = true := fun e => by
    have h1 := hmm fun h => e (hmz.2 h)
    have h2 := hpl hc (hm1 _ h1.1)
    exact ⟨h1.1, h1.2, h2⟩
  have hnb : n ≠ 0 → n ∈ l2 ∧ numAt b (n + 16) = k ∧ 184 ≤ n ∧ n % 16 = 8 ∧ n + 32 ≤ b.length ∧ memberB b n c = true := fun e => by
    have h1 := hnm fun h => e (hnz.2 h)
    have h2 := hpl hc (hm2 _ h1.1)
    exact ⟨h1.1, h1.2, h2⟩
  have hmk : m < 18446744073709551616 := by have := numAt_lt b (k + 16); omega
  have hnk : n < 18446744073709551616 := by have := numAt_lt b (k + 8); omega
  have hho : headO c + 8 ≤ 184 ∧ headO c % 8 = 0 ∧ 0 < headO c := by unfold headO; omega
  have hcond : ¬ ((m = 0 ∧ numAt b (headO c) ≠ k) ∨ (m ≠ 0 ∧ (memberB b m c = false ∨ numAt b (m + 8) ≠ k)) ∨ (n ≠ 0 ∧ (memberB b n c = false ∨ numAt b (n + 16) ≠ k))) := by
    rintro (⟨e1, e2⟩ | ⟨e1, e2⟩ | ⟨e1, e2⟩)
    · exact e2 (hm0 (hmz.1 e1)).2
    · obtain ⟨_, a1, _, _, _, a2⟩ := hmb e1
      rcases e2 with e2 | e2
      · rw [a2] at e2; cases e2
      · exact e2 a1
    · obtain ⟨_, a1, _, _, _, a2⟩ := hnb e1
      rcases e2 with e2 | e2
      · rw [a2] at e2; cases e2
      · exact e2 a1
  obtain ⟨b1, hb1⟩ : ∃ b1, (if m = 0 then layAt b (headO c) n else layAt b (m + 8) n) = b1 := ⟨_, rfl⟩
  obtain ⟨b2, hb2⟩ : ∃ b2, (if n = 0 then b1 else layAt b1 (n + 16) m) = b2 := ⟨_, rfl⟩
  have htake : takeB b k = some (markB b2 c) := by
    unfold takeB
    rw [hfree]
    simp only
    rw [s3, hn, if_neg hcond, hb1, hb2]
  have lw0 : ∀ t, t + 8 ≤ 184 → LinkW bs t := fun t h => .inl h
  have lwc : ∀ q ∈ ls c, LinkW bs (q + 8) ∧ LinkW bs (q + 16) := fun q hq => by
    obtain ⟨y, hy, e1, e2, _⟩ := hlw hc hq
    exact ⟨.inr ⟨y, hy, e2, .inl (by rw [e1])⟩, .inr ⟨y, hy, e2, .inr (by rw [e1])⟩⟩
  have t1 : Touch (LinkW bs) b b1 := by
    rw [← hb1]
    split
    · exact Touch.lay b _ _ (by omega) (lw0 _ hho.1)
    · rename_i e; have := hmb e; exact Touch.lay b _ _ (by omega) (lwc m (hm1 _ this.1)).1
  have t2 : Touch (LinkW bs) b1 b2 := by
    rw [← hb2]
    split
    · exact Touch.refl _ _
    · rename_i e; have := hnb e; exact Touch.lay b1 _ _ (by rw [t1.len]; omega) (lwc n (hm2 _ this.1)).2
  have hb2l : b2.length = b.length := t2.len.trans t1.len
  have t3 : Touch (LinkW bs) b2 (markB b2 c) := markB_touch (by omega) (lw0 0 (by omega))
  have f1 : ∀ q, q % 8 = 0 → numAt b1 q = if (m = 0 ∧ q = headO c) ∨ (m ≠ 0 ∧ q = m + 8) then n else numAt b q := fun q hq => by
    rw [← hb1]
    by_cases e : m = 0
    · rw [if_pos e, numAt_lay b _ q n (by omega) hnk (by omega)]
      by_cases e2 : q = headO c <;> simp [e, e2]
    · have := hmb e
      rw [if_neg e, numAt_lay b _ q n (by omega) hnk (by omega)]
      by_cases e2 : q = m + 8 <;> simp [e, e2]
  have f2 : ∀ q, q % 8 = 0 → numAt b2 q = if n ≠ 0 ∧ q = n + 16 then m else numAt b1 q := fun q hq => by
    rw [← hb2]
    by_cases e : n = 0
    · rw [if_pos e]; simp [e]
    · have := hnb e
      rw [if_neg e, numAt_lay b1 _ q m (by rw [t1.len]; omega) hmk (by omega)]
      by_cases e2 : q = n + 16 <;> simp [e, e2]
  have f3 := fun q hq => markB_num (b := b2) (c := c) (by omega) hc q hq
  have g0 : numAt b2 0 = numAt b 0 := by
    rw [f2 0 rfl, if_neg (by omega), f1 0 rfl, if_neg (by omega)]
  have gh : ∀ d, d < 22 → d ≠ c → numAt (markB b2 c) (headO d) = numAt b (headO d) := fun d hd hne => by
    have e1 : headO d ≠ headO c := by unfold headO; omega
    have e2 : headO d + 8 ≤ 184 ∧ 0 < headO d ∧ headO d % 8 = 0 := by unfold headO; omega
    rw [f3 _ e2.2.2, if_neg (by omega), f2 _ e2.2.2, if_neg (fun h => by have := hnb h.1; omega), f1 _ e2.2.2, if_neg (by rintro (h | h); exact e1 h.2; have := hmb h.1; omega)]
  have ghc : numAt b2 (headO c) = if m = 0 then n else numAt b (headO c) := by
    rw [f2 _ hho.2.1, if_neg (fun h => by have := hnb h.1; omega), f1 _ hho.2.1]
    by_cases e : m = 0
    · simp [e]
    · rw [if_neg (by rintro (h | h); exact e h.1; have := hmb h.1; omega), if_neg e]
  have g8 : ∀ q, 184 ≤ q → q % 16 = 8 → numAt (markB b2 c) (q + 8) = if m ≠ 0 ∧ q = m then n else numAt b (q + 8) := fun q h1 h2 => by
    rw [f3 _ (by omega), if_neg (by omega), f2 _ (by omega), if_neg (fun h => by have := hnb h.1; omega), f1 _ (by omega)]
    by_cases e : m ≠ 0 ∧ q = m
    · rw [if_pos (.inr ⟨e.1, by omega⟩), if_pos e]
    · rw [if_neg (by rintro (h | h); omega; exact e ⟨h.1, by omega⟩), if_neg e]
  have g16 : ∀ q, 184 ≤ q → q % 16 = 8 → numAt (markB b2 c) (q + 16) = if n ≠ 0 ∧ q = n then m else numAt b (q + 16) := fun q h1 h2 => by
    rw [f3 _ (by omega), if_neg (by omega), f2 _ (by omega)]
    by_cases e : n ≠ 0 ∧ q = n
    · rw [if_pos ⟨e.1, by omega⟩, if_pos e]
    · rw [if_neg (fun h => e ⟨h.1, by omega⟩), if_neg e, f1 _ (by omega), if_neg (by rintro (h | h); omega; have := hmb h.1; omega)]
  refine ⟨_, htake, (t1.trans t2).trans t3, ?_, ?_, ?_, ?_, ?_⟩
  · rw [f3 0 rfl, if_pos rfl, g0]; exact setBit_lt h.w0 hc
  · intro d hd
    rw [f3 0 rfl, if_pos rfl, g0, bitAt_set]
    by_cases e : d = c
    · subst e
      rw [if_pos rfl, ghc, if_pos rfl, hfil]
      by_cases e : m = 0
      · rw [if_pos e, hmz.1 e]; simp [hnz]
      · have := (fun h => e (hmz.2 h) : l1 ≠ [])
        rw [if_neg e]
        have h1 := (h.headNe ht hd).2 (fun h => by rw [h] at ho; cases ho)
        have h2 : l1 ++ l2 ≠ [] := fun h => e (hmz.2 (List.append_eq_nil_iff.1 h).1)
        rw [decide_eq_true h1, decide_eq_true h2]
    · rw [if_neg e, if_neg e]; exact h.bit d hd
  · intro d hd
    by_cases e : d = c
    · subst e
      rw [if_pos rfl, hfil]
      have hh : numAt (markB b2 d) (headO d) = if m = 0 then n else numAt b (headO d) := by rw [f3 _ hho.2.1, if_neg (by omega), ghc]
      have h2 : ∃ z', Seg (markB b2 d) m n l2 z' 0 := by
        refine Seg.rehead s4 hnd2.2 (fun q hq => ?_) (fun q hq hne => ?_) (fun hne => ?_)
        · have h1 := hpl hc (hm2 q hq)
          rw [g8 q h1.1 h1.2.1, if_neg]
          rintro ⟨h2, rfl⟩
          exact (hnd1 _ (hmb h2).1).2 hq
        · have h1 := hpl hc (hm2 q hq)
          rw [g16 q h1.1 h1.2.1, if_neg (fun h => hne h.2)]
        · have h1 := hnb ((fun h => hne (hnz.1 h)))
          rw [g16 n h1.2.2.1 h1.2.2.2.1, if_pos ⟨(fun h => hne (hnz.1 h)), rfl⟩]
      obtain ⟨z', hz'⟩ := h2
      refine ⟨z', Seg.append.2 ⟨m, n, ?_, hz'⟩⟩
      rw [hh]
      by_cases e : m = 0
      · rw [if_pos e, hmz.1 e]
        exact ⟨e, rfl⟩
      · rw [if_neg e]
        have hne := (fun h => e (hmz.2 h) : l1 ≠ [])
        refine s1.retail hne hnd3 (fun q hq => ?_) (fun q hq hq2 => ?_) ?_
        · have h1 := hpl hc (hm1 q hq)
          rw [g16 q h1.1 h1.2.1, if_neg]
          rintro ⟨h2, rfl⟩
          exact (hnd1 _ hq).2 (hnb h2).1
        · have h1 := hpl hc (hm1 q hq)
          rw [g8 q h1.1 h1.2.1, if_neg (fun h => hq2 h.2)]
        · have h1 := hmb e
          rw [g8 m h1.2.2.1 h1.2.2.2.1, if_pos ⟨e, rfl⟩]
    · rw [if_neg e]
      obtain ⟨z2, hz2⟩ := h.seg d hd
      refine ⟨z2, ?_⟩
      rw [gh d hd e]
      refine hz2.frame fun q hq => ?_
      have h1 := hpl hd hq
      rw [g8 q h1.1 h1.2.1, g16 q h1.1 h1.2.1, if_neg, if_neg]
      · exact ⟨rfl, rfl⟩
      · rintro ⟨h2, rfl⟩; exact e (hsep hd hq (hm2 _ (hnb h2).1))
      · rintro ⟨h2, rfl⟩; exact e (hsep hd hq (hm1 _ (hmb h2).1))
  · intro d hd q hq
    by_cases e : d = c
    · subst e
      rw [if_pos rfl] at hq
      exact h.mem d hd q (List.mem_filter.1 hq).1
    · rw [if_neg e] at hq; exact h.mem d hd q hq
  · intro d hd
    by_cases e : d = c
    · subst e
      rw [if_pos rfl]; exact hnd0.filter _
    · rw [if_neg e]; exact h.nodup d hd
/-- A free block that is in no list is put into its own. -/
theorem putB_lists {b : List UInt8} {bs : List Blk} {ls : Nat → List Nat} (h : Lists b bs ls) (ht : Good b bs) (hl : 184 ≤ b.length) (hb : b.length ≤ 16384) {c : Nat} (hc : c < 22) {x : Blk} (hx : x ∈ bs) (hu : x.used = false) (hcl : cls x.size = c) (hno : x.off ∉ ls c) :
    ∃ b', putB b x.off = some b' ∧ Touch (LinkW bs) b b' ∧ Lists b' bs (fun d => if d = c then x.off :: ls c else ls d) := by
  have hg := (ht.mem hx).2.1
  have hgs := blkAt_some hg
  have hfree : freeB b x.off = some c := by unfold freeB; rw [hg]; simp [hu, hcl]
  have hpl := fun {d q : Nat} (hd : d < 22) (hq : q ∈ ls d) => h.place ht hd hq
  have hnod : ∀ d, d < 22 → x.off ∉ ls d := fun d hd hq => by
    obtain ⟨y, hy, e1, _, e2⟩ := h.mem d hd _ hq
    have g2 := (ht.mem hy).2.1
    rw [e1, hg] at g2
    simp only [Option.some.injEq] at g2
    subst g2
    have : (c : Int) = d := hcl.symm.trans e2
    have : c = d := by omega
    subst this
    exact hno hq
  obtain ⟨o, ho⟩ : ∃ o, x.off = o := ⟨_, rfl⟩
  rw [ho] at hno hfree hg hgs hnod ⊢
  obtain ⟨z, hz⟩ := h.seg c hc
  obtain ⟨n, hn⟩ : ∃ n, numAt b (headO c) = n := ⟨_, rfl⟩
  have hhd := h.head hc
  have hnz := h.headNe ht hc
  rw [hn] at hz hhd hnz
  have hnmem : n ≠ 0 → n ∈ ls c := fun e => by
    have := hnz.1 e
    rw [hhd]
    cases hl : ls c with
    | nil => exact absurd hl this
    | cons a r => exact List.mem_cons_self ..
  have hnb : n ≠ 0 → 184 ≤ n ∧ n % 16 = 8 ∧ n + 32 ≤ b.length ∧ memberB b n c = true ∧ n ≠ o := fun e => by
    have h1 := hpl hc (hnmem e)
    exact ⟨h1.1, h1.2.1, h1.2.2.1, h1.2.2.2, fun e2 => hno (e2 ▸ hnmem e)⟩
  have hnk : n < 18446744073709551616 := by have := numAt_lt b (headO c); omega
  have hho : headO c + 8 ≤ 184 ∧ headO c % 8 = 0 ∧ 0 < headO c := by unfold headO; omega
  have hcond : ¬ (n = o ∨ (n ≠ 0 ∧ memberB b n c = false)) := by
    rintro (e | ⟨e, e2⟩)
    · by_cases e0 : n = 0
      · omega
      · exact (hnb e0).2.2.2.2 e
    · rw [(hnb e).2.2.2.1] at e2; cases e2
  have hok : o < 18446744073709551616 := by omega
  obtain ⟨bA, hbA⟩ : ∃ bA, layAt (layAt b (o + 8) n) (o + 16) 0 = bA := ⟨_, rfl⟩
  obtain ⟨bB, hbB⟩ : ∃ bB, (if n = 0 then bA else layAt bA (n + 16) o) = bB := ⟨_, rfl⟩
  obtain ⟨bC, hbC⟩ : ∃ bC, layAt bB (headO c) o = bC := ⟨_, rfl⟩
  have hput : putB b o = some (markB bC c) := by
    unfold putB
    rw [hfree]
    simp only
    rw [hn, if_neg hcond, hbA, hbB, hbC]
  have lw0 : ∀ t, t + 8 ≤ 184 → LinkW bs t := fun t h => .inl h
  have lwo : LinkW bs (o + 8) ∧ LinkW bs (o + 16) := ⟨.inr ⟨x, hx, hu, .inl (by rw [ho])⟩, .inr ⟨x, hx, hu, .inr (by rw [ho])⟩⟩
  have lwn : n ≠ 0 → LinkW bs (n + 16) := fun e => by
    obtain ⟨y, hy, e1, e2, _⟩ := h.mem c hc n (hnmem e)
    exact .inr ⟨y, hy, e2, .inr (by rw [e1])⟩
  have hlA0 : (layAt b (o + 8) n).length = b.length := layAt_length _ _ _ (by omega)
  have tA : Touch (LinkW bs) b bA := by
    rw [← hbA]
    exact (Touch.lay b _ _ (by omega) lwo.1).trans (Touch.lay _ _ _ (by omega) lwo.2)
  have tB : Touch (LinkW bs) bA bB := by
    rw [← hbB]
    split
    · exact Touch.refl _ _
    · rename_i e; have := hnb e; exact Touch.lay bA _ _ (by rw [tA.len]; omega) (lwn e)
  have tC : Touch (LinkW bs) bB bC := by
    rw [← hbC]
    exact Touch.lay bB _ _ (by rw [tB.len, tA.len]; omega) (lw0 _ hho.1)
  have hCl : bC.length = b.length := tC.len.trans (tB.len.trans tA.len)
  have tD : Touch (LinkW bs) bC (markB bC c) := markB_touch (by omega) (lw0 0 (by omega))
  have fA : ∀ q, q % 8 = 0 → numAt bA q = if q = o + 16 then 0 else if q = o + 8 then n else numAt b q := fun q hq => by
    rw [← hbA, numAt_lay _ _ q 0 (by omega) (by decide) (by omega), numAt_lay _ _ q n (by omega) hnk (by omega)]
  have fB : ∀ q, q % 8 = 0 → numAt bB q = if n ≠ 0 ∧ q = n + 16 then o else numAt bA q := fun q hq => by
    rw [← hbB]
    by_cases e : n = 0
    · rw [if_pos e]; simp [e]
    · have := hnb e
      rw [if_neg e, numAt_lay bA _ q o (by rw [tA.len]; omega) hok (by omega)]
      by_cases e2 : q = n + 16 <;> simp [e, e2]
  have fC : ∀ q, q % 8 = 0 → numAt bC q = if q = headO c then o else numAt bB q := fun q hq => by
    rw [← hbC, numAt_lay bB _ q o (by rw [tB.len, tA.len]; omega) hok (by omega)]
  have fD := fun q hq => markB_num (b := bC) (c := c) (by omega) hc q hq
  have g0 : numAt bC 0 = numAt b 0 := by
    rw [fC 0 rfl, if_neg (by omega), fB 0 rfl, if_neg (by omega), fA 0 rfl, if_neg (by omega), if_neg (by omega)]
  have gh : ∀ d, d < 22 → d ≠ c → numAt (markB bC c) (headO d) = numAt b (headO d) := fun d hd hne => by
    have e1 : headO d ≠ headO c := by unfold headO; omega
    have e2 : headO d + 8 ≤ 184 ∧ 0 < headO d ∧ headO d % 8 = 0 := by unfold headO; omega
    rw [fD _ e2.2.2, if_neg (by omega), fC _ e2.2.2, if_neg e1, fB _ e2.2.2, if_neg (fun h => by have := hnb h.1; omega), fA _ e2.2.2, if_neg (by omega), if_neg (by omega)]
  have ghc : numAt bC (headO c) = o := by rw [fC _ hho.2.1, if_pos rfl]
  have g8 : ∀ q, 184 ≤ q → q % 16 = 8 → numAt (markB bC c) (q + 8) = if q = o then n else numAt b (q + 8) := fun q h1 h2 => by
    rw [fD _ (by omega), if_neg (by omega), fC _ (by omega), if_neg (by omega), fB _ (by omega), if_neg (fun h => by have := hnb h.1; omega), fA _ (by omega), if_neg (by omega)]
    by_cases e : q = o
    · rw [if_pos (by omega), if_pos e]
    · rw [if_neg (by omega), if_neg e]
  have g16 : ∀ q, 184 ≤ q → q % 16 = 8 → q ≠ o → numAt (markB bC c) (q + 16) = if n ≠ 0 ∧ q = n then o else numAt b (q + 16) := fun q h1 h2 h3 => by
    rw [fD _ (by omega), if_neg (by omega), fC _ (by omega), if_neg (by omega), fB _ (by omega)]
    by_cases e : n ≠ 0 ∧ q = n
    · rw [if_pos ⟨e.1, by omega⟩, if_pos e]
    · rw [if_neg (fun h => e ⟨h.1, by omega⟩), if_neg e, fA _ (by omega), if_neg (by omega), if_neg (by omega)]
  have go : numAt (markB bC c) (o + 16) = 0 := by
    rw [fD _ (by omega), if_neg (by omega), fC _ (by omega), if_neg (by omega), fB _ (by omega), if_neg (fun h => by have := hnb h.1; omega), fA _ (by omega), if_pos rfl]
  refine ⟨_, hput, ((tA.trans tB).trans tC).trans tD, ?_, ?_, ?_, ?_, ?_⟩
  · rw [fD 0 rfl, if_pos rfl, g0]; exact setBit_lt h.w0 hc
  · intro d hd
    rw [fD 0 rfl, if_pos rfl, g0, bitAt_set]
    by_cases e : d = c
    · subst e
      rw [if_pos rfl, ghc, if_pos rfl]
      have : o ≠ 0 := by omega
      simp [this]
    · rw [if_neg e, if_neg e]; exact h.bit d hd
  · intro d hd
    by_cases e : d = c
    · subst e
      rw [if_pos rfl]
      have hh : numAt (markB bC d) (headO d) = o := by rw [fD _ hho.2.1, if_neg (by omega), ghc]
      have h2 : ∃ z', Seg (markB bC d) o n (ls d) z' 0 := by
        refine Seg.rehead hz (h.nodup d hd) (fun q hq => ?_) (fun q hq hne => ?_) (fun hne => ?_)
        · have h1 := hpl hd hq
          rw [g8 q h1.1 h1.2.1, if_neg (fun e2 => hno (by rw [← e2]; exact hq))]
        · have h1 := hpl hd hq
          rw [g16 q h1.1 h1.2.1 (fun e2 => hno (by rw [← e2]; exact hq)), if_neg (fun h => hne h.2)]
        · have hne := hnz.2 hne
          have h1 := hnb hne
          rw [g16 n h1.1 h1.2.1 h1.2.2.2.2, if_pos ⟨hne, rfl⟩]
      obtain ⟨z', hz'⟩ := h2
      refine ⟨z', hh, go, ?_⟩
      rw [g8 o (by omega) (by omega), if_pos rfl]
      exact hz'
    · rw [if_neg e]
      obtain ⟨z2, hz2⟩ := h.seg d hd
      refine ⟨z2, ?_⟩
      rw [gh d hd e]
      refine hz2.frame fun q hq => ?_
      have h1 := hpl hd hq
      have h3 : q ≠ o := fun e => hnod d hd (e ▸ hq)
      rw [g8 q h1.1 h1.2.1, g16 q h1.1 h1.2.1 h3, if_neg h3, if_neg]
      · exact ⟨rfl, rfl⟩
      · rintro ⟨h2, rfl⟩; exact e (h.sep ht hd hc hq (hnmem h2))
  · intro d hd q hq
    by_cases e : d = c
    · subst e
      rw [if_pos rfl] at hq
      rcases List.mem_cons.1 hq with rfl | hq
      · exact ⟨x, hx, ho, hu, hcl⟩
      · exact h.mem d hd q hq
    · rw [if_neg e] at hq; exact h.mem d hd q hq
  · intro d hd
    by_cases e : d = c
    · subst e
      rw [if_pos rfl]; exact List.nodup_cons.2 ⟨hno, h.nodup d hd⟩
    · rw [if_neg e]; exact h.nodup d hd
theorem cls_size {s : Int} (h : isSize s = true) : 0 ≤ cls s ∧ cls s < 22 := by
  have := (isSize_iff s).1 h
  unfold cls; rw [h]; simp only [if_true]
  repeat' split
  all_goals omega
theorem blkAt_isSize {b : List UInt8} {o : Nat} {x : Blk} (h : blkAt b o = some x) : isSize x.size = true := by
  have := blkAt_some h
  exact isSize_yes (by omega)
end Go.Own

/- Lists of free blocks: the program's small functions. -/
namespace Go.Own
def freeI (b : List UInt8) (o : Int) : Option Nat := if 0 ≤ o then freeB b o.toNat else none
end Go.Own
namespace Go.Proofs.Ytenbpbnffnodhaa
open Go Go.RowKit Go.Own
set_option linter.unusedVariables false
set_option maxRecDepth 100000
def errF (x : Option Nat) : Value := match x with | none => .iface 183 (.int .i64 3) | some _ => .nilIface
section
variable {B : Nat} {w0 w : World} {l : List Ob} {i p : Nat} {A : Ar}
theorem lst_word (h : St B w0 w l) (hi : l[i]? = some (ArT p A)) (o : Int) (O : Nat) (ho : o = O) (hO : O ≤ 1000000) :
    Calls Try.prog 186 #[arP p, .int .i64 o] w fun e w' => e = .returned (.int .u64 (numAt A.b O : Nat)) ∧ w = w' := by
  subst ho
  obtain ⟨hsm, hbs⟩ := ar_small h hi
  have H := Lib.hid h; have HI := Lib.hid hi
  have KB := Lib.hid (ar_Base h hi)
  have u0 : IntKind.u64.wrap (O : Int) = O := IntWalk.u64_in _ (by omega)
  have u1 : IntKind.u64.wrap ((A.base : Int) + O) = (A.base : Int) + O := IntWalk.u64_in _ (by omega)
  clear h hi
  by_cases hf : O + 8 ≤ A.b.length
  · have KW := Lib.hid (ar_WordAt H.out HI.out ((A.base : Int) + O) O rfl hf)
    clear hf
    go_enter Try.func186, Try.ntmps186
    go_wp2_with fail
    have kc := KB.out
    with_reducible refine kc.mono ?_
    clear kc
    rintro e w' ⟨rfl, rfl⟩
    go_wp2_with fail
    have kc := KW.out
    with_reducible refine kc.mono ?_
    clear kc
    rintro e w' ⟨rfl, rfl⟩
    go_wp2
    go_ret
    exact ⟨rfl, rfl⟩
  · have hn : numAt A.b O = 0 := by unfold numAt; rw [if_neg hf]
    rw [hn]
    have KW := Lib.hid (ar_WordNo H.out HI.out ((A.base : Int) + O) O rfl hO (by omega))
    clear hf hn
    go_enter Try.func186, Try.ntmps186
    go_wp2_with fail
    have kc := KB.out
    with_reducible refine kc.mono ?_
    clear kc
    rintro e w' ⟨rfl, rfl⟩
    go_wp2_with fail
    have kc := KW.out
    with_reducible refine kc.mono ?_
    clear kc
    rintro e w' ⟨rfl, rfl⟩
    go_wp2
    go_ret
    exact ⟨rfl, rfl⟩
theorem lst_set (h : St B w0 w l) (hi : l[i]? = some (ArT p A)) (o : Int) (O : Nat) (ho : o = O) (hO : O + 8 ≤ A.b.length) (x : Int) (X : Nat) (hx : x = X) (hX : X < 18446744073709551616) :
    Calls Try.prog 189 #[arP p, .int .i64 o, .int .u64 x] w fun e w' => e = .returned (.tuple #[]) ∧ St B w0 w' (l.set i (ArT p { A with b := layAt A.b O X })) := by
  subst ho; subst hx
  obtain ⟨hsm, hbs⟩ := ar_small h hi
  have KB := Lib.hid (ar_Base h hi)
  have u0 : IntKind.u64.wrap (O : Int) = O := IntWalk.u64_in _ (by omega)
  have u1 : IntKind.u64.wrap ((A.base : Int) + O) = (A.base : Int) + O := IntWalk.u64_in _ (by omega)
  have KS := Lib.hid (ar_SetAt h hi ((A.base : Int) + O) O rfl hO (X : Int) X rfl hX)
  clear h hi hO
  go_enter Try.func189, Try.ntmps189
  go_wp2_with fail
  have kc := KB.out
  with_reducible refine kc.mono ?_
  clear kc
  rintro e w' ⟨rfl, rfl⟩
  go_wp2_with fail
  have kc := KS.out
  with_reducible refine kc.mono ?_
  clear kc
  rintro e w3 ⟨rfl, t3⟩
  have T3 := Lib.hid t3
  clear t3
  go_wp2
  go_end0
  exact ⟨rfl, T3.out⟩
theorem lst_head (w : World) (c : Nat) (hc : c < 22) : Calls Try.prog 187 #[.int .i64 c] w fun e w' => e = .returned (.int .i64 (headO c : Nat)) ∧ w = w' := by
  have m1 : IntKind.i64.wrap (8 * (c : Int)) = 8 * (c : Int) := IntWalk.i64_in _ (by omega)
  have m2 : IntKind.i64.wrap (8 + 8 * (c : Int)) = ((headO c : Nat) : Int) := by rw [IntWalk.i64_in _ (by omega)]; unfold headO; omega
  go_enter Try.func187, Try.ntmps187
  go_wp2
  go_ret
  exact ⟨rfl, rfl⟩
theorem blkI_nat (b : List UInt8) (o : Nat) : blkI b (o : Int) = blkAt b o := by unfold blkI; rw [if_pos (Int.natCast_nonneg _), Int.toNat_natCast]
set_option maxHeartbeats 4000000 in
theorem lst_member (h : St B w0 w l) (hi : l[i]? = some (ArT p A)) (x : Int) (X : Nat) (hx : x = X) (hX : X < 18446744073709551616) (c : Nat) (hc : c < 22) :
    Calls Try.prog 188 #[arP p, .int .u64 x, .int .i64 c] w fun e w' => e = .returned (.bool (memberB A.b X c)) ∧ St B w0 w' l := by
  subst hx
  obtain ⟨hsm, hbs⟩ := ar_small h hi
  have H := Lib.hid h; have HI := Lib.hid hi
  by_cases hl : 16384 < X
  · have hn : memberB A.b X c = false := by
      unfold memberB
      cases hb : blkAt A.b X with
      | none => rfl
      | some y => have := blkAt_some hb; omega
    rw [hn]
    have d1 : decide ((X : Int) > 16384) = true := decide_eq_true (by omega)
    clear hn h hi hl
    go_enter Try.func188, Try.ntmps188
    go_wp2
    go_ret
    exact ⟨rfl, H.out⟩
  · have d1 : decide ((X : Int) > 16384) = false := decide_eq_false (by omega)
    have u0 : IntKind.i64.wrap (X : Int) = X := IntWalk.i64_in _ (by omega)
    have kg := blk_Get h hi (X : Int)
    rw [blkI_nat] at kg
    unfold memberB
    clear h hi hl
    cases hb : blkAt A.b X with
    | none =>
      rw [hb, show bkV none = .agg #[.int .i64 0, .int .i64 0, .bool false] from rfl, show errO none = .iface 183 (.int .i64 3) from rfl] at kg
      have KG := Lib.hid kg
      clear hb kg
      go_enter Try.func188, Try.ntmps188
      go_wp2_with fail
      have kc := KG.out
      with_reducible refine kc.mono ?_
      clear kc
      rintro e w3 ⟨rfl, t3⟩
      have T3 := Lib.hid t3
      clear t3
      go_wp2_with (first | (refine bk_alloc T3.out rfl rfl ?_; intro g4 w4 h4; have T4 := Lib.hid h4; clear h4) | (refine bk_store T4.out 0 rfl rfl _ _ rfl rfl 0 0 false rfl ?_; intro w5 h5; have T5 := Lib.hid h5; clear h5 T4))
      go_ret
      exact ⟨rfl, T5.out.tail⟩
    | some y =>
      rw [hb, show bkV (some y) = .agg #[.int .i64 y.off, .int .i64 y.size, .bool y.used] from rfl, show errO (some y) = .nilIface from rfl] at kg
      have hys := blkAt_some hb
      have hcy := cls_size (blkAt_isSize hb)
      have y1 : y.size ≤ 16384 := hys.2.2.2.2.1
      have KG := Lib.hid kg
      have KC : Hid (∀ w, _) := Lib.hid fun w => class_Class w (y.size : Int) (by omega) (by omega)
      obtain ⟨C, hC⟩ : ∃ C : Nat, cls y.size = C := ⟨(cls y.size).toNat, by omega⟩
      show Calls _ _ _ _ fun e w' => e = .returned (.bool (!y.used && decide (cls y.size = c))) ∧ St B w0 w' l
      rw [hC] at KC ⊢
      clear hb kg hys hcy hC
      cases hu : y.used with
      | true =>
        rw [hu] at KG
        clear hu
        go_enter Try.func188, Try.ntmps188
        go_wp2_with fail
        have kc := KG.out
        with_reducible refine kc.mono ?_
        clear kc
        rintro e w3 ⟨rfl, t3⟩
        have T3 := Lib.hid t3
        clear t3
        go_wp2_with (first | (refine bk_alloc T3.out rfl rfl ?_; intro g4 w4 h4; have T4 := Lib.hid h4; clear h4) | (refine bk_store T4.out 0 rfl rfl _ _ rfl rfl y.off y.size true rfl ?_; intro w5 h5; have T5 := Lib.hid h5; clear h5 T4; have k2 : w5.cell? ⟨g4, 2, none⟩ = some (.bool true) := (T5.out.row (i := 0) rfl).cell 2))
        go_ret
        exact ⟨rfl, T5.out.tail⟩
      | false =>
        rw [hu] at KG
        clear hu
        go_enter Try.func188, Try.ntmps188
        go_wp2_with fail
        have kc := KG.out
        with_reducible refine kc.mono ?_
        clear kc
        rintro e w3 ⟨rfl, t3⟩
        have T3 := Lib.hid t3
        clear t3
        go_wp2_with (first | (refine bk_alloc T3.out rfl rfl ?_; intro g4 w4 h4; have T4 := Lib.hid h4; clear h4) | (refine bk_store T4.out 0 rfl rfl _ _ rfl rfl y.off y.size false rfl ?_; intro w5 h5; have T5 := Lib.hid h5; clear h5 T4; have k2 : w5.cell? ⟨g4, 2, none⟩ = some (.bool false) := (T5.out.row (i := 0) rfl).cell 2; have k1 : w5.cell? ⟨g4, 1, none⟩ = some (.int .i64 y.size) := (T5.out.row (i := 0) rfl).cell 1))
        have kc := KC.out w5
        with_reducible refine kc.mono ?_
        clear kc
        rintro e w' ⟨rfl, rfl⟩
        go_wp2
        go_ret
        refine ⟨?_, T5.out.tail⟩
        simp only [Bool.not_false, Bool.true_and]
        rfl
set_option maxHeartbeats 4000000 in
theorem lst_free (h : St B w0 w l) (hi : l[i]? = some (ArT p A)) (o : Int) :
    Calls Try.prog 185 #[arP p, .int .i64 o] w fun e w' => e = .returned (.tuple #[.int .i64 ((freeI A.b o).getD 0 : Nat), errF (freeI A.b o)]) ∧ St B w0 w' l := by
  have kg := blk_Get h hi o
  have hf : freeI A.b o = match blkI A.b o with | some x => if x.used then none else some (cls x.size).toNat | none => none := by
    unfold freeI blkI freeB
    split <;> rfl
  have H := Lib.hid h
  clear h hi
  cases hb : blkI A.b o with
  | none =>
    rw [hb] at hf
    rw [hf]
    rw [hb, show bkV none = .agg #[.int .i64 0, .int .i64 0, .bool false] from rfl, show errO none = .iface 183 (.int .i64 3) from rfl] at kg
    have KG := Lib.hid kg
    clear hb kg hf
    go_enter Try.func185, Try.ntmps185
    go_wp2_with fail
    have kc := KG.out
    with_reducible refine kc.mono ?_
    clear kc
    rintro e w3 ⟨rfl, t3⟩
    have T3 := Lib.hid t3
    clear t3
    go_wp2_with (first | (refine bk_alloc T3.out rfl rfl ?_; intro g4 w4 h4; have T4 := Lib.hid h4; clear h4) | (refine bk_store T4.out 0 rfl rfl _ _ rfl rfl 0 0 false rfl ?_; intro w5 h5; have T5 := Lib.hid h5; clear h5 T4))
    go_ret2
    exact ⟨rfl, T5.out.tail⟩
  | some y =>
    rw [hb] at hf
    simp only at hf
    have hys : 32 ≤ y.size ∧ y.size ≤ 16384 ∧ isSize y.size = true := by
      unfold blkI at hb
      split at hb
      · have := blkAt_some hb; exact ⟨this.2.2.2.1, this.2.2.2.2.1, blkAt_isSize hb⟩
      · cases hb
    have hcy := cls_size hys.2.2
    rw [hb, show bkV (some y) = .agg #[.int .i64 y.off, .int .i64 y.size, .bool y.used] from rfl, show errO (some y) = .nilIface from rfl] at kg
    have KC : Hid (∀ w, _) := Lib.hid fun w => class_Class w (y.size : Int) (by omega) (by omega)
    have hC : cls y.size = ((cls y.size).toNat : Nat) := by omega
    rw [hC] at KC
    generalize (cls y.size).toNat = C at *
    clear hb hys hcy hC
    cases hu : y.used with
    | true =>
      rw [hu] at kg hf
      rw [hf]
      have KG := Lib.hid kg
      clear hu kg hf
      go_enter Try.func185, Try.ntmps185
      go_wp2_with fail
      have kc := KG.out
      with_reducible refine kc.mono ?_
      clear kc
      rintro e w3 ⟨rfl, t3⟩
      have T3 := Lib.hid t3
      clear t3
      go_wp2_with (first | (refine bk_alloc T3.out rfl rfl ?_; intro g4 w4 h4; have T4 := Lib.hid h4; clear h4) | (refine bk_store T4.out 0 rfl rfl _ _ rfl rfl y.off y.size true rfl ?_; intro w5 h5; have T5 := Lib.hid h5; clear h5 T4; have k2 : w5.cell? ⟨g4, 2, none⟩ = some (.bool true) := (T5.out.row (i := 0) rfl).cell 2))
      go_ret2
      exact ⟨rfl, T5.out.tail⟩
    | false =>
      rw [hu] at kg hf
      rw [hf]
      have KG := Lib.hid kg
      clear hu kg hf
      go_enter Try.func185, Try.ntmps185
      go_wp2_with fail
      have kc := KG.out
      with_reducible refine kc.mono ?_
      clear kc
      rintro e w3 ⟨rfl, t3⟩
      have T3 := Lib.hid t3
      clear t3
      go_wp2_with (first | (refine bk_alloc T3.out rfl rfl ?_; intro g4 w4 h4; have T4 := Lib.hid h4; clear h4) | (refine bk_store T4.out 0 rfl rfl _ _ rfl rfl y.off y.size false rfl ?_; intro w5 h5; have T5 := Lib.hid h5; clear h5 T4; have k2 : w5.cell? ⟨g4, 2, none⟩ = some (.bool false) := (T5.out.row (i := 0) rfl).cell 2; have k1 : w5.cell? ⟨g4, 1, none⟩ = some (.int .i64 y.size) := (T5.out.row (i := 0) rfl).cell 1))
      have kc := KC.out w5
      with_reducible refine kc.mono ?_
      clear kc
      rintro e w' ⟨rfl, rfl⟩
      go_wp2
      go_ret2
      exact ⟨rfl, T5.out.tail⟩
set_option maxHeartbeats 4000000 in
theorem lst_mark (h : St B w0 w l) (hi : l[i]? = some (ArT p A)) (c : Nat) (hc : c < 22) (hl : 184 ≤ A.b.length) :
    Calls Try.prog 190 #[arP p, .int .i64 c] w fun e w' => e = .returned (.tuple #[]) ∧ St B w0 w' (l.set i (ArT p { A with b := markB A.b c })) := by
  have hw := numAt_lt A.b 0
  have hh := numAt_lt A.b (headO c)
  have hho : headO c ≤ 176 := by unfold headO; omega
  have KW := Lib.hid (lst_word h hi 0 0 rfl (by decide))
  have KH := Lib.hid (lst_word h hi (headO c : Nat) (headO c) rfl (by omega))
  have H := Lib.hid h; have HI := Lib.hid hi; have HL := Lib.hid hl
  unfold markB
  generalize numAt A.b (headO c) = X at *
  generalize numAt A.b 0 = V at *
  clear h hi hl
  go_enter Try.func190, Try.ntmps190
  obtain ⟨P, hP⟩ : ∃ P : Nat, 2 ^ c = P := ⟨_, rfl⟩
  have hP1 : P ≤ 2097152 := by rw [← hP]; exact Nat.pow_le_pow_right (n := 2) (by decide) (show c ≤ 21 by omega)
  have p1 : IntKind.u64.wrap ((2 : Int) ^ c) = (P : Int) := by
    rw [show (2 : Int) ^ c = ((2 ^ c : Nat) : Int) by simp, hP]; exact IntWalk.u64_in _ (by omega)
  have HP := Lib.hid hP
  clear hP
  go_wp2_with fail
  have kc := lst_head w c hc
  with_reducible refine kc.mono ?_
  clear kc
  rintro e w' ⟨rfl, rfl⟩
  go_wp2_with fail
  have kc := KH.out
  with_reducible refine kc.mono ?_
  clear kc
  rintro e w' ⟨rfl, rfl⟩
  by_cases hX : X = 0
  · have e1 : bits .andNot .u64 (V : Int) (P : Int) = ((setBit V c (decide (X ≠ 0)) : Nat) : Int) := by
      rw [u64_andNot _ _ (by omega) (by omega) (by omega) (by omega), Int.toNat_natCast, Int.toNat_natCast, ← HP.out, andNot_bit V c hw hc]
      simp [hX]
    have hlt := setBit_lt64 (v := decide (X ≠ 0)) hw hc
    have KS := Lib.hid (lst_set H.out HI.out 0 0 rfl (by have := HL.out; omega) _ _ e1 hlt)
    clear e1 hlt
    subst hX
    go_wp2_with fail
    have kc := KW.out
    with_reducible refine kc.mono ?_
    clear kc
    rintro e w' ⟨rfl, rfl⟩
    go_wp2_with fail
    have kc := KS.out
    with_reducible refine kc.mono ?_
    clear kc
    rintro e w3 ⟨rfl, t3⟩
    have T3 := Lib.hid t3
    clear t3
    go_wp2
    go_end0
    exact ⟨rfl, T3.out⟩
  · have d0 : ((X : Int) == 0) = false := by rw [beq_eq_false_iff_ne]; omega
    have e1 : bits .or .u64 (V : Int) (P : Int) = ((setBit V c (decide (X ≠ 0)) : Nat) : Int) := by
      rw [u64_or _ _ (by omega) (by omega) (by omega) (by omega), Int.toNat_natCast, Int.toNat_natCast, ← HP.out, or_bit V c]
      simp [hX]
    have hlt := setBit_lt64 (v := decide (X ≠ 0)) hw hc
    have KS := Lib.hid (lst_set H.out HI.out 0 0 rfl (by have := HL.out; omega) _ _ e1 hlt)
    clear e1 hlt
    go_wp2_with fail
    have kc := KW.out
    with_reducible refine kc.mono ?_
    clear kc
    rintro e w' ⟨rfl, rfl⟩
    go_wp2_with fail
    have kc := KS.out
    with_reducible refine kc.mono ?_
    clear kc
    rintro e w3 ⟨rfl, t3⟩
    have T3 := Lib.hid t3
    clear t3
    go_wp2
    go_end0
    exact ⟨rfl, T3.out⟩
end
end Go.Proofs.Ytenbpbnffnodhaa

/- Lists of free blocks: the program's Put and Take. -/
namespace Go.Own
def putI (b : List UInt8) (o : Int) : Option (List UInt8) := if 0 ≤ o then putB b o.toNat else none
def takeI (b : List UInt8) (o : Int) : Option (List UInt8) := if 0 ≤ o then takeB b o.toNat else none
theorem freeB_some {b : List UInt8} {o c : Nat} (h : freeB b o = some c) : ∃ x, blkAt b o = some x ∧ x.used = false ∧ c = (cls x.size).toNat ∧ c < 22 ∧ 184 ≤ o ∧ o % 16 = 8 ∧ o + 32 ≤ b.length := by
  unfold freeB at h
  cases hb : blkAt b o with
  | none => rw [hb] at h; cases h
  | some x =>
    rw [hb] at h
    simp only at h
    cases hu : x.used with
    | true => rw [hu] at h; cases h
    | false =>
      rw [hu] at h
      simp only [Bool.false_eq_true, if_false, Option.some.injEq] at h
      have h1 := blkAt_some hb
      have h2 := cls_size (blkAt_isSize hb)
      exact ⟨x, rfl, hu, h.symm, by omega, h1.2.1, h1.2.2.1, by omega⟩
theorem freeI_some {b : List UInt8} {o : Int} {c : Nat} (h : freeI b o = some c) : ∃ O : Nat, o = O ∧ freeB b O = some c := by
  unfold freeI at h
  split at h
  · exact ⟨o.toNat, by omega, h⟩
  · cases h
theorem memberB_at {b : List UInt8} {x c : Nat} (h : memberB b x c = true) : 184 ≤ x ∧ x % 16 = 8 ∧ x + 32 ≤ b.length := by
  unfold memberB at h
  cases hb : blkAt b x with
  | none => rw [hb] at h; cases h
  | some y => have h1 := blkAt_some hb; exact ⟨h1.2.1, h1.2.2.1, by omega⟩
end Go.Own
namespace Go.Proofs.Ytenbpbnffnodhaa
open Go Go.RowKit Go.Own
set_option linter.unusedVariables false
set_option maxRecDepth 100000
def errP (x : Option (List UInt8)) : Value := match x with | none => .iface 183 (.int .i64 3) | some _ => .nilIface
section
variable {B : Nat} {w0 w : World} {l : List Ob} {i p bs cp : Nat} {b : List UInt8}
/-! ### With the arena's bytes at hand -/
theorem at_set (hil : i < l.length) (P : Ob) : (l.set i P)[i]? = some P := List.getElem?_set_self hil
theorem ls_small (h : St B w0 w (l.set i (ArT p ⟨bs, cp, b⟩))) (hil : i < l.length) : b.length ≤ 16384 ∧ bs ≤ 4611686018427387904 := ar_small h (at_set hil _)
theorem ls_word (h : St B w0 w (l.set i (ArT p ⟨bs, cp, b⟩))) (hil : i < l.length) (o : Int) (O : Nat) (ho : o = O) (hO : O ≤ 1000000) :
    Calls Try.prog 186 #[arP p, .int .i64 o] w fun e w' => e = .returned (.int .u64 (numAt b O : Nat)) ∧ w = w' := lst_word h (at_set hil _) o O ho hO
theorem ls_set (h : St B w0 w (l.set i (ArT p ⟨bs, cp, b⟩))) (hil : i < l.length) (o : Int) (O : Nat) (ho : o = O) (hO : O + 8 ≤ b.length) (x : Int) (X : Nat) (hx : x = X) (hX : X < 18446744073709551616) :
    Calls Try.prog 189 #[arP p, .int .i64 o, .int .u64 x] w fun e w' => e = .returned (.tuple #[]) ∧ St B w0 w' (l.set i (ArT p ⟨bs, cp, layAt b O X⟩)) := by
  refine (lst_set h (at_set hil _) o O ho hO x X hx hX).mono ?_
  rintro e w' ⟨rfl, h1⟩
  rw [List.set_set] at h1
  exact ⟨rfl, h1⟩
theorem ls_member (h : St B w0 w (l.set i (ArT p ⟨bs, cp, b⟩))) (hil : i < l.length) (x : Int) (X : Nat) (hx : x = X) (hX : X < 18446744073709551616) (c : Nat) (hc : c < 22) :
    Calls Try.prog 188 #[arP p, .int .u64 x, .int .i64 c] w fun e w' => e = .returned (.bool (memberB b X c)) ∧ St B w0 w' (l.set i (ArT p ⟨bs, cp, b⟩)) := lst_member h (at_set hil _) x X hx hX c hc
theorem ls_mark (h : St B w0 w (l.set i (ArT p ⟨bs, cp, b⟩))) (hil : i < l.length) (c : Nat) (hc : c < 22) (hl : 184 ≤ b.length) :
    Calls Try.prog 190 #[arP p, .int .i64 c] w fun e w' => e = .returned (.tuple #[]) ∧ St B w0 w' (l.set i (ArT p ⟨bs, cp, markB b c⟩)) := by
  refine (lst_mark h (at_set hil _) c hc hl).mono ?_
  rintro e w' ⟨rfl, h1⟩
  rw [List.set_set] at h1
  exact ⟨rfl, h1⟩
theorem ls_free (h : St B w0 w (l.set i (ArT p ⟨bs, cp, b⟩))) (hil : i < l.length) (o : Int) :
    Calls Try.prog 185 #[arP p, .int .i64 o] w fun e w' => e = .returned (.tuple #[.int .i64 ((freeI b o).getD 0 : Nat), errF (freeI b o)]) ∧ St B w0 w' (l.set i (ArT p ⟨bs, cp, b⟩)) := lst_free h (at_set hil _) o
set_option maxHeartbeats 8000000 in
theorem ls_Put (h : St B w0 w (l.set i (ArT p ⟨bs, cp, b⟩))) (hil : i < l.length) (o : Int) :
    Calls Try.prog 88 #[arP p, .int .i64 o] w fun e w' => e = .returned (errP (putI b o)) ∧ St B w0 w' (l.set i (ArT p ⟨bs, cp, (putI b o).getD b⟩)) := by
  obtain ⟨hsm, hbs⟩ := ls_small h hil
  have kf := ls_free h hil o
  have H := Lib.hid h
  clear h
  cases hF : freeI b o with
  | none =>
    have hn : putI b o = none := by
      unfold freeI at hF; unfold putI
      split
      · rename_i h0; rw [if_pos h0] at hF; unfold putB; rw [hF]
      · rfl
    rw [hF, show errF none = .iface 183 (.int .i64 3) from rfl] at kf
    rw [hn]
    have KF := Lib.hid kf
    clear hF hn kf
    go_enter Try.func88, Try.ntmps88
    go_wp2_with fail
    have kc := KF.out
    with_reducible refine kc.mono ?_
    clear kc
    rintro e w3 ⟨rfl, t3⟩
    have T3 := Lib.hid t3
    clear t3
    go_wp2
    go_ret
    exact ⟨rfl, T3.out⟩
  | some c =>
    rw [hF, show errF (some c) = .nilIface from rfl, Option.getD_some] at kf
    have KF := Lib.hid kf
    obtain ⟨O, rfl, hF2⟩ := freeI_some hF
    obtain ⟨x, -, -, -, hc, o1, o2, o3⟩ := freeB_some hF2
    have hP : putI b (O : Int) = putB b O := by unfold putI; rw [if_pos (Int.natCast_nonneg _), Int.toNat_natCast]
    unfold putB at hP
    rw [hF2] at hP
    simp only at hP
    rw [hP]
    have hX := numAt_lt b (headO c)
    have hho : headO c ≤ 176 := by unfold headO; omega
    have KWH := fun w' (h : St B w0 w' (l.set i (ArT p ⟨bs, cp, b⟩))) => ls_word h hil (headO c : Nat) (headO c) rfl (by omega)
    have KW := Lib.hid KWH
    generalize numAt b (headO c) = X at *
    have u0 : IntKind.u64.wrap (O : Int) = O := IntWalk.u64_in _ (by omega)
    have HO := Lib.hid (And.intro o1 (And.intro o2 o3))
    clear hP hF hF2 kf KWH o2
    by_cases e1 : X = O
    · rw [if_pos (.inl e1)]
      subst e1
      go_enter Try.func88, Try.ntmps88
      go_wp2_with fail
      have kc := KF.out
      with_reducible refine kc.mono ?_
      clear kc
      rintro e w3 ⟨rfl, t3⟩
      have T3 := Lib.hid t3
      clear t3
      go_wp2_with fail
      have kc := lst_head w3 c hc
      with_reducible refine kc.mono ?_
      clear kc
      rintro e w' ⟨rfl, rfl⟩
      go_wp2_with fail
      have kc := KW.out _ T3.out
      with_reducible refine kc.mono ?_
      clear kc
      rintro e w' ⟨rfl, rfl⟩
      go_wp2
      go_ret
      exact ⟨rfl, T3.out⟩
    · have d1 : ((X : Int) == (O : Int)) = false := by rw [beq_eq_false_iff_ne]; omega
      have m1 : IntKind.i64.wrap ((O : Int) + 8) = (O : Int) + 8 := IntWalk.i64_in _ (by omega)
      have m2 : IntKind.i64.wrap ((O : Int) + 16) = (O : Int) + 16 := IntWalk.i64_in _ (by omega)
      by_cases e2 : X = 0
      · subst e2
        rw [if_neg (by simp; omega), if_pos rfl]
        have l1 : (layAt b (O + 8) 0).length = b.length := layAt_length _ _ _ (by omega)
        have l2 : (layAt (layAt b (O + 8) 0) (O + 16) 0).length = b.length := by rw [layAt_length _ _ _ (by omega)]; exact l1
        have l3 : (layAt (layAt (layAt b (O + 8) 0) (O + 16) 0) (headO c) O).length = b.length := by rw [layAt_length _ _ _ (by omega)]; exact l2
        have HL := Lib.hid (And.intro l1 (And.intro l2 l3))
        clear l1 l2 l3 e1
        go_enter Try.func88, Try.ntmps88
        go_wp2_with fail
        have kc := KF.out
        with_reducible refine kc.mono ?_
        clear kc
        rintro e w3 ⟨rfl, t3⟩
        have T3 := Lib.hid t3
        clear t3
        go_wp2_with fail
        have kc := lst_head w3 c hc
        with_reducible refine kc.mono ?_
        clear kc
        rintro e w' ⟨rfl, rfl⟩
        go_wp2_with fail
        have kc := KW.out _ T3.out
        with_reducible refine kc.mono ?_
        clear kc
        rintro e w' ⟨rfl, rfl⟩
        go_wp2_with fail
        have kc := ls_set T3.out hil ((O : Int) + 8) (O + 8) (by omega) (by have := HO.out; omega) 0 0 rfl (by decide)
        with_reducible refine kc.mono ?_
        clear kc
        rintro e w4 ⟨rfl, t4⟩
        have T4 := Lib.hid t4
        clear t4
        go_wp2_with fail
        have kc := ls_set T4.out hil ((O : Int) + 16) (O + 16) (by omega) (by have := HO.out; have := HL.out; omega) 0 0 rfl (by decide)
        with_reducible refine kc.mono ?_
        clear kc
        rintro e w5 ⟨rfl, t5⟩
        have T5 := Lib.hid t5
        clear t5
        go_wp2_with fail
        have kc := lst_head w5 c hc
        with_reducible refine kc.mono ?_
        clear kc
        rintro e w' ⟨rfl, rfl⟩
        go_wp2_with fail
        have kc := ls_set T5.out hil _ (headO c) rfl (by have := HO.out; have := HL.out; omega) O O rfl (by omega)
        with_reducible refine kc.mono ?_
        clear kc
        rintro e w6 ⟨rfl, t6⟩
        have T6 := Lib.hid t6
        clear t6
        go_wp2_with fail
        have kc := ls_mark T6.out hil c hc (by have := HO.out; have := HL.out; omega)
        with_reducible refine kc.mono ?_
        clear kc
        rintro e w7 ⟨rfl, t7⟩
        have T7 := Lib.hid t7
        clear t7
        go_wp2
        go_ret
        exact ⟨rfl, T7.out⟩
      · have d2 : ((X : Int) == 0) = false := by rw [beq_eq_false_iff_ne]; omega
        have d3 : ((X : Int) != 0) = true := by rw [bne_iff_ne]; omega
        cases hm : memberB b X c with
        | false =>
          rw [if_pos (.inr ⟨e2, rfl⟩)]
          go_enter Try.func88, Try.ntmps88
          go_wp2_with fail
          have kc := KF.out
          with_reducible refine kc.mono ?_
          clear kc
          rintro e w3 ⟨rfl, t3⟩
          have T3 := Lib.hid t3
          clear t3
          go_wp2_with fail
          have kc := lst_head w3 c hc
          with_reducible refine kc.mono ?_
          clear kc
          rintro e w' ⟨rfl, rfl⟩
          go_wp2_with fail
          have kc := KW.out _ T3.out
          with_reducible refine kc.mono ?_
          clear kc
          rintro e w' ⟨rfl, rfl⟩
          go_wp2_with fail
          have kc := ls_member T3.out hil X X rfl hX c hc
          rw [hm] at kc
          with_reducible refine kc.mono ?_
          clear kc
          rintro e w4 ⟨rfl, t4⟩
          have T4 := Lib.hid t4
          clear t4
          go_wp2
          go_ret
          exact ⟨rfl, T4.out⟩
        | true =>
          obtain ⟨x1, x2, x3⟩ := memberB_at hm
          rw [if_neg (by simp [e1]), if_neg e2]
          have u1 : IntKind.i64.wrap (X : Int) = X := IntWalk.i64_in _ (by omega)
          have m3 : IntKind.i64.wrap ((X : Int) + 16) = (X : Int) + 16 := IntWalk.i64_in _ (by omega)
          have l1 : (layAt b (O + 8) X).length = b.length := layAt_length _ _ _ (by omega)
          have l2 : (layAt (layAt b (O + 8) X) (O + 16) 0).length = b.length := by rw [layAt_length _ _ _ (by omega)]; exact l1
          have l3 : (layAt (layAt (layAt b (O + 8) X) (O + 16) 0) (X + 16) O).length = b.length := by rw [layAt_length _ _ _ (by omega)]; exact l2
          have l4 : (layAt (layAt (layAt (layAt b (O + 8) X) (O + 16) 0) (X + 16) O) (headO c) O).length = b.length := by rw [layAt_length _ _ _ (by omega)]; exact l3
          have HL := Lib.hid (And.intro l1 (And.intro l2 (And.intro l3 l4)))
          have HX := Lib.hid x3
          clear l1 l2 l3 l4 e1 x1 x2 x3
          go_enter Try.func88, Try.ntmps88
          go_wp2_with fail
          have kc := KF.out
          with_reducible refine kc.mono ?_
          clear kc
          rintro e w3 ⟨rfl, t3⟩
          have T3 := Lib.hid t3
          clear t3
          go_wp2_with fail
          have kc := lst_head w3 c hc
          with_reducible refine kc.mono ?_
          clear kc
          rintro e w' ⟨rfl, rfl⟩
          go_wp2_with fail
          have kc := KW.out _ T3.out
          with_reducible refine kc.mono ?_
          clear kc
          rintro e w' ⟨rfl, rfl⟩
          go_wp2_with fail
          have kc := ls_member T3.out hil X X rfl hX c hc
          rw [hm] at kc
          with_reducible refine kc.mono ?_
          clear kc
          rintro e w4 ⟨rfl, t4⟩
          have T4 := Lib.hid t4
          clear t4
          go_wp2_with fail
          have kc := ls_set T4.out hil ((O : Int) + 8) (O + 8) (by omega) (by have := HO.out; omega) X X rfl hX
          with_reducible refine kc.mono ?_
          clear kc
          rintro e w5 ⟨rfl, t5⟩
          have T5 := Lib.hid t5
          clear t5
          go_wp2_with fail
          have kc := ls_set T5.out hil ((O : Int) + 16) (O + 16) (by omega) (by have := HO.out; have := HL.out; omega) 0 0 rfl (by decide)
          with_reducible refine kc.mono ?_
          clear kc
          rintro e w6 ⟨rfl, t6⟩
          have T6 := Lib.hid t6
          clear t6
          go_wp2_with fail
          have kc := ls_set T6.out hil ((X : Int) + 16) (X + 16) (by omega) (by have := HX.out; have := HL.out; omega) O O rfl (by omega)
          with_reducible refine kc.mono ?_
          clear kc
          rintro e w7 ⟨rfl, t7⟩
          have T7 := Lib.hid t7
          clear t7
          go_wp2_with fail
          have kc := lst_head w7 c hc
          with_reducible refine kc.mono ?_
          clear kc
          rintro e w' ⟨rfl, rfl⟩
          go_wp2_with fail
          have kc := ls_set T7.out hil _ (headO c) rfl (by have := HO.out; have := HL.out; omega) O O rfl (by omega)
          with_reducible refine kc.mono ?_
          clear kc
          rintro e w8 ⟨rfl, t8⟩
          have T8 := Lib.hid t8
          clear t8
          go_wp2_with fail
          have kc := ls_mark T8.out hil c hc (by have := HO.out; have := HL.out; omega)
          with_reducible refine kc.mono ?_
          clear kc
          rintro e w9 ⟨rfl, t9⟩
          have T9 := Lib.hid t9
          clear t9
          go_wp2
          go_ret
          exact ⟨rfl, T9.out⟩
end
end Go.Proofs.Ytenbpbnffnodhaa
