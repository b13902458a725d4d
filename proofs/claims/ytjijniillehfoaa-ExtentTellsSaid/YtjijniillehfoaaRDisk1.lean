/- The reference's disk: its shape in memory; Cut, Read, Bytes. -/
import Derived.Test.YtjijniillehfoaaDisk3
namespace Go.Proofs.Ytjijniillehfoaa
open Go Go.RowKit Go.Own
set_option linter.unusedVariables false
set_option maxRecDepth 100000
/-- Of the block p the reference's disk is told; what its limits are is said apart. -/
structure RdAt (w : World) (p : Nat) (D : Dk) (vL vW : Value) (ss : List (List UInt8 × Value)) (it : List Wt) : Prop where
  row : Row w p 47 [vL, vW, .bool D.off, .int .i64 D.left]
  ownL : w.ownsRow 0 31 1 vL ss.length (ss.map (·.2))
  ownW : w.ownsRow 0 211 2 vW it.length (it.map Wt.cells).flatten
  secs : D.L = ss.map (·.1)
  wait : D.wait = it.map Wt.of
  inner : ∀ x ∈ ss, w.ownsRow 0 5 1 x.2 512 (x.1.map bv)
  items : ∀ x ∈ it, w.ownsRow 0 5 1 x.v 512 (x.b.map bv)
def rdF (p : Nat) (vL vW : Value) (ss : List (List UInt8 × Value)) (it : List Wt) (k : Nat) : Prop := k = p ∨ vL.ownBlock = some k ∨ vW.ownBlock = some k ∨ (∃ x ∈ ss, x.2.ownBlock = some k) ∨ ∃ x ∈ it, x.v.ownBlock = some k
/-- The reference's disk in memory, all of its blocks among F. -/
def RdRep (w : World) (p : Nat) (D : Dk) (F : Nat → Prop) : Prop := ∃ vL vW ss it, RdAt w p D vL vW ss it ∧ D.Good ∧ ∀ k, rdF p vL vW ss it k → F k
def RdTo (p : Nat) (D' : Dk) (F : Nat → Prop) (w w' : World) : Prop := ∃ F', RdRep w' p D' F' ∧ Keep F w w' ∧ ∀ k, F' k → F k ∨ w.heap.size ≤ k
theorem RdAt.kept {F : Nat → Prop} {w w' : World} {p : Nat} {D : Dk} {vL vW : Value} {ss : List (List UInt8 × Value)} {it : List Wt} (h : RdAt w p D vL vW ss it) (k : Keep F w w') (hf : ∀ x, rdF p vL vW ss it x → ¬ F x) : RdAt w' p D vL vW ss it :=
  ⟨h.row.keep k (hf p (.inl rfl)), own_kept h.ownL k (fun g hg => hf g (.inr (.inl hg))), own_kept h.ownW k (fun g hg => hf g (.inr (.inr (.inl hg)))), h.secs, h.wait,
   fun x hx => own_kept (h.inner x hx) k (fun g hg => hf g (.inr (.inr (.inr (.inl ⟨x, hx, hg⟩))))), fun x hx => own_kept (h.items x hx) k (fun g hg => hf g (.inr (.inr (.inr (.inr ⟨x, hx, hg⟩)))))⟩
theorem RdAt.lt {w : World} {p : Nat} {D : Dk} {vL vW : Value} {ss : List (List UInt8 × Value)} {it : List Wt} (h : RdAt w p D vL vW ss it) {k : Nat} (hk : rdF p vL vW ss it k) : k < w.heap.size := by
  rcases hk with rfl | hk | hk | ⟨x, hx, hk⟩ | ⟨x, hx, hk⟩
  · exact h.row.lt
  · exact (own_block_lt h.ownL hk).2
  · exact (own_block_lt h.ownW hk).2
  · exact (own_block_lt (h.inner x hx) hk).2
  · exact (own_block_lt (h.items x hx) hk).2
theorem RdAt.len {w : World} {p : Nat} {D : Dk} {vL vW : Value} {ss : List (List UInt8 × Value)} {it : List Wt} (h : RdAt w p D vL vW ss it) : D.L.length = ss.length ∧ D.wait.length = it.length := by
  rw [h.secs, h.wait, List.length_map, List.length_map]; exact ⟨rfl, rfl⟩
theorem RdAt.formL {w : World} {p : Nat} {D : Dk} {vL vW : Value} {ss : List (List UInt8 × Value)} {it : List Wt} (h : RdAt w p D vL vW ss it) : ∃ a c, vL = .slice a ss.length c ∧ ss.length ≤ c ∧ c ≤ 9223372036854775807 := by
  obtain ⟨a, c, rfl, _, hs⟩ := Sl.of_owned h.ownL
  exact ⟨a, c, rfl, hs.cap, hs.room⟩
theorem RdAt.formW {w : World} {p : Nat} {D : Dk} {vL vW : Value} {ss : List (List UInt8 × Value)} {it : List Wt} (h : RdAt w p D vL vW ss it) : ∃ a c, vW = .slice a it.length c ∧ it.length ≤ c ∧ c ≤ 9223372036854775807 := by
  obtain ⟨a, c, rfl, _, hs⟩ := Sl.of_owned h.ownW
  exact ⟨a, c, rfl, hs.cap, hs.room⟩
theorem RdRep.kept {F G : Nat → Prop} {w w' : World} {p : Nat} {D : Dk} (h : RdRep w p D F) (k : Keep G w w') (hf : ∀ x, F x → ¬ G x) : RdRep w' p D F := by
  obtain ⟨vL, vW, ss, it, h, hg, hF⟩ := h
  exact ⟨vL, vW, ss, it, h.kept k fun x hx => hf x (hF x hx), hg, hF⟩
theorem RdRep.below {F : Nat → Prop} {w w' : World} {p : Nat} {D : Dk} (h : RdRep w p D F) (k : Below w.heap.size w w') : RdRep w' p D F := by
  obtain ⟨vL, vW, ss, it, h, hg, hF⟩ := h
  exact ⟨vL, vW, ss, it, h.kept (F := fun _ => False) (.of_below k) fun _ _ h => h, hg, hF⟩
theorem RdRep.good {F : Nat → Prop} {w : World} {p : Nat} {D : Dk} (h : RdRep w p D F) : D.Good := by
  obtain ⟨vL, vW, ss, it, h, hg, hF⟩ := h; exact hg
theorem RdRep.tight {F : Nat → Prop} {w : World} {p : Nat} {D : Dk} (h : RdRep w p D F) : RdRep w p D (fun k => F k ∧ k < w.heap.size) := by
  obtain ⟨vL, vW, ss, it, h, hg, hF⟩ := h
  exact ⟨vL, vW, ss, it, h, hg, fun k hk => ⟨hF k hk, h.lt hk⟩⟩
theorem RdTo.mono {p : Nat} {D : Dk} {F G : Nat → Prop} {w w' : World} (h : RdTo p D F w w') (hG : ∀ k, F k → G k) : RdTo p D G w w' := by
  obtain ⟨F', h1, h2, h3⟩ := h
  exact ⟨F', h1, h2.mono fun k _ hk => hG k hk, fun k hk => (h3 k hk).imp (hG k) id⟩
/-- Only the row of the disk itself turned. -/
theorem RdAt.row2 {w w' : World} {p : Nat} {D D' : Dk} {vL vW : Value} {ss : List (List UInt8 × Value)} {it : List Wt} (h : RdAt w p D vL vW ss it) (hr : Row w' p 47 [vL, vW, .bool D'.off, .int .i64 D'.left]) (hk : Keep (· = p) w w') (hL : D'.L = D.L) (hw : D'.wait = D.wait) : RdAt w' p D' vL vW ss it :=
  ⟨hr, own_kept h.ownL hk fun x hx e => own_row_ne h.ownL h.row (by decide) (e ▸ hx), own_kept h.ownW hk fun x hx e => own_row_ne h.ownW h.row (by decide) (e ▸ hx), hL.trans h.secs, hw.trans h.wait,
   fun x hx => own_kept (h.inner x hx) hk fun y hy e => own_row_ne (h.inner x hx) h.row (by decide) (e ▸ hy), fun x hx => own_kept (h.items x hx) hk fun y hy e => own_row_ne (h.items x hx) h.row (by decide) (e ▸ hy)⟩
theorem rd_Cut (w : World) (p : Nat) (D : Dk) (F : Nat → Prop) (h : RdRep w p D F) (n : Int) (h0 : -9223372036854775808 ≤ n) (h1 : n ≤ 9223372036854775807) :
    Calls Try.prog 50 #[.pointer (some ⟨p, 0, none⟩), .int .i64 n] w fun e w' => e = .returned (.tuple #[]) ∧ RdTo p (D.cut n) F w w' := by
  obtain ⟨vL, vW, ss, it, h, hg, hF⟩ := h
  have f3 := h.row.frozen 3
  have q3 : w.cell? ⟨p, 3, none⟩ = some (.int .i64 D.left) := h.row.cell 3
  have hgd := hg.cut n h1
  have H := Lib.hid h; have HF := Lib.hid hF; have HG := Lib.hid hgd
  have hlt := h.row.lt
  clear h hF hg hgd
  by_cases hn : n < 0
  · have hc : (D.cut n).left = -1 := by show max n (-1) = -1; omega
    go_enter Try.func50, Try.ntmps50
    go_wp2
    go_end0
    have r := (H.out.row.set 3 (.int .i64 n)).set 3 (.int .i64 (-1))
    have ks := ((Keep.refl (· = p) w).setCell (p := ⟨p, 3, none⟩) (.inl rfl) (.int .i64 n)).setCell (p := ⟨p, 3, none⟩) (.inl rfl) (.int .i64 (-1))
    exact ⟨rfl, F, ⟨_, _, _, _, H.out.row2 (D' := D.cut n) (by rw [hc]; exact r) ks rfl rfl, HG.out, HF.out⟩, ks.mono fun k _ e => HF.out _ (.inl e), fun k hk => .inl hk⟩
  · have hc : (D.cut n).left = n := by show max n (-1) = n; omega
    go_enter Try.func50, Try.ntmps50
    go_wp2
    go_end0
    have r := H.out.row.set 3 (.int .i64 n)
    have ks := (Keep.refl (· = p) w).setCell (p := ⟨p, 3, none⟩) (.inl rfl) (.int .i64 n)
    exact ⟨rfl, F, ⟨_, _, _, _, H.out.row2 (D' := D.cut n) (by rw [hc]; exact r) ks rfl rfl, HG.out, HF.out⟩, ks.mono fun k _ e => HF.out _ (.inl e), fun k hk => .inl hk⟩
/-- New bytes, and no error's number. -/
def RLoadOk (l : List UInt8) (w : World) (e : Ending) (w' : World) : Prop :=
  ∃ v, e = .returned (.tuple #[v, .int .i64 0]) ∧ w'.ownsRow w.heap.size 5 1 v l.length (l.map bv) ∧ Below w.heap.size w w'
theorem rd_Read_arg (w : World) (p : Nat) (D : Dk) (F : Nat → Prop) (h : RdRep w p D F) (i : Int) (hf : ¬ (0 ≤ i ∧ i < D.L.length)) :
    Calls Try.prog 134 #[.pointer (some ⟨p, 0, none⟩), .int .i64 i] w fun e w' => e = .returned (.tuple #[.slice none 0 0, .int .i64 1]) ∧ w = w' := by
  obtain ⟨vL, vW, ss, it, h, hg, hF⟩ := h
  obtain ⟨aL, cL, rfl, _, _⟩ := h.formL
  have q0 : w.cell? ⟨p, 0, none⟩ = some (.slice aL ss.length cL) := h.row.cell 0
  have hl := h.len.1
  rw [hl] at hf
  clear h hF hg hl
  by_cases c1 : i < 0
  · clear hf
    go_enter Try.func134, Try.ntmps134
    go_wp2
    go_ret2
    exact ⟨rfl, rfl⟩
  · have c2 : (ss.length : Int) ≤ i := by omega
    clear hf
    go_enter Try.func134, Try.ntmps134
    go_wp2
    go_ret2
    exact ⟨rfl, rfl⟩
theorem rd_Read_off (w : World) (p : Nat) (D : Dk) (F : Nat → Prop) (h : RdRep w p D F) (i : Int) (h0 : 0 ≤ i) (h1 : i < D.L.length) (ho : D.off = true) :
    Calls Try.prog 134 #[.pointer (some ⟨p, 0, none⟩), .int .i64 i] w fun e w' => e = .returned (.tuple #[.slice none 0 0, .int .i64 6]) ∧ w = w' := by
  obtain ⟨vL, vW, ss, it, h, hg, hF⟩ := h
  obtain ⟨aL, cL, rfl, _, _⟩ := h.formL
  have q0 : w.cell? ⟨p, 0, none⟩ = some (.slice aL ss.length cL) := h.row.cell 0
  have q2 : w.cell? ⟨p, 2, none⟩ = some (.bool D.off) := h.row.cell 2
  rw [ho] at q2
  have hl := h.len.1
  rw [hl] at h1
  clear h hF hg hl ho
  go_enter Try.func134, Try.ntmps134
  go_wp2
  go_ret2
  exact ⟨rfl, rfl⟩
theorem own_some1 {w : World} {v : Value} {b : List UInt8} (h : w.ownsRow 0 5 1 v 512 (b.map bv)) : ∃ a c, v = .slice a 512 c ∧ Bs w a 512 c b := by
  obtain ⟨a, c, rfl, _, hs⟩ := Sl.of_owned h
  exact ⟨a, c, rfl, hs⟩
theorem rd_Read_ok (w : World) (p : Nat) (D : Dk) (F : Nat → Prop) (h : RdRep w p D F) (i : Int) (I : Nat) (hI : i = I) (h1 : I < D.L.length) (ho : D.off = false) (hmany : D.wait.length ≤ 1000000) :
    Calls Try.prog 134 #[.pointer (some ⟨p, 0, none⟩), .int .i64 i] w (RLoadOk (lastOf D.wait I (D.L.getD I [])) w) := by
  subst hI
  obtain ⟨vL, vW, ss, it, h, hg, hF⟩ := h
  obtain ⟨aL, cL, rfl, hcL, hrL⟩ := h.formL
  obtain ⟨aW, cW, rfl, hcW, hrW⟩ := h.formW
  obtain ⟨hl, hlw⟩ := h.len
  have hm := hg.many
  have q0 : w.cell? ⟨p, 0, none⟩ = some (.slice aL ss.length cL) := h.row.cell 0
  have q1 : w.cell? ⟨p, 1, none⟩ = some (.slice aW it.length cW) := h.row.cell 1
  have q2 : w.cell? ⟨p, 2, none⟩ = some (.bool D.off) := h.row.cell 2
  rw [ho] at q2
  have hI : I < ss.length := by omega
  have hgd : D.L.getD I [] = ss[I].1 := by simp [List.getD, h.secs, hI]
  rw [hgd]
  have hwait := h.wait
  obtain ⟨gL, rfl, u0⟩ := own_cell2 h.ownL I ss[I].2 (by simp [hI])
  have hin := h.inner ss[I] (List.getElem_mem hI)
  generalize ss[I].2 = v0 at *
  generalize ss[I].1 = S0 at *
  obtain ⟨a0, c0, rfl, _⟩ := own_some1 hin
  have H := Lib.hid h; have HIN := Lib.hid hin; have HW := Lib.hid hwait
  clear h hF hg ho hgd hin hwait
  go_enter Try.func134, Try.ntmps134
  go_wp2
  go_loop [6, 7] (fun o v => ∃ (k : Nat) (S : List UInt8) (a c : _), k ≤ it.length ∧ v = .int .i64 k ∧ o = .slice a 512 c ∧ w.ownsRow 0 5 1 (.slice a 512 c) 512 (S.map bv) ∧ S = lastOf (D.wait.take k) I S0) (fun _ v => it.length - (intOf v).toNat)
  case atStart => exact ⟨0, S0, _, _, Nat.zero_le _, rfl, rfl, HIN.out, rfl⟩
  case round =>
    obtain ⟨k, S, a, c, hk, rfl, rfl, hS, hl2⟩ := hrel
    by_cases hlt : k < it.length
    · obtain ⟨t1, t2⟩ := wt_at it k hlt
      obtain ⟨gw, rfl, u1⟩ := own_cell2 H.out.ownW _ _ t1
      obtain ⟨_, e2, u2⟩ := own_cell2 H.out.ownW _ _ t2
      cases e2
      have hit := H.out.items it[k] (List.getElem_mem hlt)
      have hlt2 := lastOf_take D.wait I S0 k (by rw [HW.out, List.length_map]; exact hlt)
      have hwq : D.wait[k]'(by rw [HW.out, List.length_map]; exact hlt) = (it[k].i, it[k].b) := by simp [HW.out, Wt.of]
      rw [hwq] at hlt2
      simp only at hlt2
      have HS := Lib.hid hS; have HL2 := Lib.hid hl2; have HLT := Lib.hid hlt2
      generalize it[k].i = qi at *
      generalize it[k].b = qb at *
      generalize it[k].v = qv at *
      obtain ⟨a7, c7, rfl, _⟩ := own_some1 hit
      have HIT := Lib.hid hit
      clear hS hl2 hlt2 hwq t1 t2 hit
      by_cases hm2 : qi = I
      · subst hm2
        go_wp2
        exact ⟨⟨k + 1, qb, _, _, by omega, by go_num, rfl, HIT.out, by rw [HLT.out, if_pos rfl]⟩, by simp [intOf]; omega⟩
      · have e3 : ((qi : Int) == (I : Int)) = false := by rw [beq_eq_false_iff_ne]; omega
        have hn := HLT.out
        rw [if_neg hm2] at hn
        have HN := Lib.hid hn
        clear hn hm2
        go_wp2
        exact ⟨⟨k + 1, S, _, _, by omega, by go_num, rfl, HS.out, by rw [HN.out]; exact HL2.out⟩, by simp [intOf]; omega⟩
    · obtain rfl : k = it.length := by omega
      have hfin : S = lastOf D.wait I S0 := by rw [hl2, List.take_of_length_le (by rw [HW.out, List.length_map]; exact Nat.le_refl _)]
      obtain ⟨a', c', e, hB⟩ := own_some1 hS
      cases e
      have hlen := hB.len
      have HFIN := Lib.hid hfin
      have HB := Lib.hid hB
      clear hS hl2 hB hfin
      go_wp2_with (at_builtin; go_must (refine app_sl rfl _ _ 31 rfl w.heap.size 5 (.int .u8 0) 1 1 Try.underlying31 info_u8 rfl (by decide) _ 0 [] rfl (own_empty w _ _) _ _ _ _ rfl (HB.out.below ((Below.refl _ _).alloc (Nat.le_refl _) _)) (bv_one _) (by omega) (by omega) (by simp) ?_; intro v1 w1 hown1 hg1))
      go_ret2
      refine ⟨v1, rfl, ?_, ?_⟩
      · rw [← HFIN.out]
        exact ownsRow_map hown1 (by omega) (by simp)
      · exact (Below.refl _ _).alloc (Nat.le_refl _) _ |>.trans hg1
end Go.Proofs.Ytjijniillehfoaa
