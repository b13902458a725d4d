import Derived.Test.YtjijniillehfoaaArena3
import Derived.Test.YtjijniillehfoaaDiskP
import Derived.Test.YtjijniillehfoaaPiece
namespace Go.Proofs.Ytjijniillehfoaa
open Go Go.RowKit Go.Own
set_option linter.unusedVariables false
/-- A write that waits, and the slice of its bytes. -/
structure Wt where
  i : Nat
  b : List UInt8
  v : Value
def Wt.cells (x : Wt) : List Value := [.int .i64 x.i, x.v]
def Wt.of (x : Wt) : Nat × List UInt8 := (x.i, x.b)
/-- Of the block p a disk is told. -/
structure DkAt (w : World) (p : Nat) (D : Dk) (vb vw : Value) (it : List Wt) : Prop where
  row : Row w p 189 [vb, vw, .bool D.off, .int .i64 D.left]
  ownb : w.ownsRow 0 5 1 vb (512 * D.L.length) (D.L.flatten.map bv)
  ownw : w.ownsRow 0 192 2 vw it.length (it.map Wt.cells).flatten
  wait : D.wait = it.map Wt.of
  items : ∀ x ∈ it, w.ownsRow 0 5 1 x.v 512 (x.b.map bv) ∧ x.v.ownBlock ≠ vb.ownBlock
  good : D.Good
def dkF (p : Nat) (vb vw : Value) (it : List Wt) (k : Nat) : Prop := k = p ∨ vb.ownBlock = some k ∨ vw.ownBlock = some k ∨ ∃ x ∈ it, x.v.ownBlock = some k
/-- A disk in memory, all of its blocks among F. -/
def DkRep (w : World) (p : Nat) (D : Dk) (F : Nat → Prop) : Prop := ∃ vb vw it, DkAt w p D vb vw it ∧ ∀ k, dkF p vb vw it k → F k
theorem own_type_ne {w : World} {B B' z z' n n' : Nat} {e e' : TypeId} {v v' : Value} {l l' : List Value} (h : w.ownsRow B e z v n l) (h' : w.ownsRow B' e' z' v' n' l') (hne : e ≠ e') {k : Nat} (hk : v.ownBlock = some k) : ¬ v'.ownBlock = some k := by
  intro hk'
  obtain ⟨_, h⟩ := h
  obtain ⟨_, h'⟩ := h'
  rcases h with ⟨rfl, _⟩ | ⟨g, c, cur, rfl, _, a, _⟩
  · cases hk
  · rcases h' with ⟨rfl, _⟩ | ⟨g', c', cur', rfl, _, a', _⟩
    · cases hk'
    · have e1 : g = k := by simpa [Value.ownBlock] using hk
      have e2 : g' = k := by simpa [Value.ownBlock] using hk'
      subst e1; subst e2
      rw [a] at a'
      simp only [Option.some.injEq, Obj.cells.injEq] at a'
      exact hne a'.2.1
theorem own_row_ne {w : World} {B z n p : Nat} {e e' : TypeId} {v : Value} {l l' : List Value} (h : w.ownsRow B e z v n l) (h' : Row w p e' l') (hne : e ≠ e') : ¬ v.ownBlock = some p := by
  intro hk
  obtain ⟨_, h⟩ := h
  rcases h with ⟨rfl, _⟩ | ⟨g, c, cur, rfl, _, a, _⟩
  · cases hk
  · have e1 : g = p := by simpa [Value.ownBlock] using hk
    subst e1
    unfold Row at h'
    rw [a] at h'
    simp only [Option.some.injEq, Obj.cells.injEq] at h'
    exact hne h'.2.1
theorem DkAt.kept {F : Nat → Prop} {w w' : World} {p : Nat} {D : Dk} {vb vw : Value} {it : List Wt} (h : DkAt w p D vb vw it) (k : Keep F w w') (hf : ∀ x, dkF p vb vw it x → ¬ F x) : DkAt w' p D vb vw it :=
  ⟨h.row.keep k (hf p (.inl rfl)), own_kept h.ownb k (fun g hg => hf g (.inr (.inl hg))), own_kept h.ownw k (fun g hg => hf g (.inr (.inr (.inl hg)))), h.wait,
   fun x hx => ⟨own_kept (h.items x hx).1 k (fun g hg => hf g (.inr (.inr (.inr ⟨x, hx, hg⟩)))), (h.items x hx).2⟩, h.good⟩
theorem DkAt.lt {w : World} {p : Nat} {D : Dk} {vb vw : Value} {it : List Wt} (h : DkAt w p D vb vw it) {k : Nat} (hk : dkF p vb vw it k) : k < w.heap.size := by
  rcases hk with rfl | hk | hk | ⟨x, hx, hk⟩
  · exact h.row.lt
  · exact (own_block_lt h.ownb hk).2
  · exact (own_block_lt h.ownw hk).2
  · exact (own_block_lt (h.items x hx).1 hk).2
theorem DkRep.kept {F G : Nat → Prop} {w w' : World} {p : Nat} {D : Dk} (h : DkRep w p D F) (k : Keep G w w') (hf : ∀ x, F x → ¬ G x) : DkRep w' p D F := by
  obtain ⟨vb, vw, it, h, hF⟩ := h
  exact ⟨vb, vw, it, h.kept k fun x hx => hf x (hF x hx), hF⟩
theorem DkRep.below {F : Nat → Prop} {w w' : World} {p : Nat} {D : Dk} (h : DkRep w p D F) (k : Below w.heap.size w w') : DkRep w' p D F := by
  obtain ⟨vb, vw, it, h, hF⟩ := h
  exact ⟨vb, vw, it, h.kept (F := fun _ => False) (.of_below k) fun _ _ h => h, hF⟩
theorem DkRep.good {F : Nat → Prop} {w : World} {p : Nat} {D : Dk} (h : DkRep w p D F) : D.Good := by
  obtain ⟨vb, vw, it, h, hF⟩ := h; exact h.good
theorem DkAt.formb {w : World} {p : Nat} {D : Dk} {vb vw : Value} {it : List Wt} (h : DkAt w p D vb vw it) :
    ∃ g c, vb = .slice (some ⟨g, 0, none⟩) (512 * D.L.length) c ∧ Bs w (some ⟨g, 0, none⟩) (512 * D.L.length) c D.L.flatten ∧ 512 * D.L.length ≤ c ∧ c ≤ 9223372036854775807 := by
  have h1 := h.ownb
  obtain ⟨a, c, rfl, _, hs⟩ := Sl.of_owned h1
  obtain ⟨_, h2⟩ := h1
  rcases h2 with ⟨h2, h3⟩ | ⟨g, cap, cur, h2, _⟩
  · have hm := h.good.many
    omega
  · injection h2 with e1 e2 e3
    subst e1; subst e3
    exact ⟨g, c, rfl, hs, hs.cap, hs.room⟩
theorem DkAt.formw {w : World} {p : Nat} {D : Dk} {vb vw : Value} {it : List Wt} (h : DkAt w p D vb vw it) : ∃ a c, vw = .slice a it.length c ∧ it.length ≤ c ∧ c ≤ 9223372036854775807 := by
  obtain ⟨a, c, rfl, _, hs⟩ := Sl.of_owned h.ownw
  exact ⟨a, c, rfl, hs.cap, hs.room⟩
theorem disk_Sectors (w : World) (p : Nat) (D : Dk) (F : Nat → Prop) (h : DkRep w p D F) :
    Calls Try.prog 36 #[.pointer (some ⟨p, 0, none⟩)] w fun e w' => e = .returned (.int .i64 D.L.length) ∧ w = w' := by
  obtain ⟨vb, vw, it, h, hF⟩ := h
  obtain ⟨g, c, rfl, hB, hc, hr⟩ := h.formb
  have q0 : w.cell? ⟨p, 0, none⟩ = some (.slice (some ⟨g, 0, none⟩) (512 * D.L.length) c) := h.row.cell 0
  have hm := h.good.many
  clear h hF hB
  go_enter Try.func36, Try.ntmps36
  go_wp2
  go_ret
  exact ⟨rI (by simp), rfl⟩
theorem disk_Waiting (w : World) (p : Nat) (D : Dk) (F : Nat → Prop) (h : DkRep w p D F) :
    Calls Try.prog 34 #[.pointer (some ⟨p, 0, none⟩)] w fun e w' => e = .returned (.int .i64 D.wait.length) ∧ w = w' := by
  obtain ⟨vb, vw, it, h, hF⟩ := h
  obtain ⟨a, c, rfl, hc, hr⟩ := h.formw
  have q1 : w.cell? ⟨p, 1, none⟩ = some (.slice a it.length c) := h.row.cell 1
  have hw : (D.wait.length : Int) = it.length := by rw [h.wait, List.length_map]
  have HW := Lib.hid hw
  clear h hF hw
  go_enter Try.func34, Try.ntmps34
  go_wp2
  go_ret
  exact ⟨rI HW.out.symm, rfl⟩
theorem disk_Bytes (w : World) (p : Nat) (D : Dk) (F : Nat → Prop) (h : DkRep w p D F) :
    Calls Try.prog 32 #[.pointer (some ⟨p, 0, none⟩)] w (BytesOk D.L.flatten w) := by
  obtain ⟨vb, vw, it, h, hF⟩ := h
  obtain ⟨g, c, rfl, hB, hc, hr⟩ := h.formb
  have q0 : w.cell? ⟨p, 0, none⟩ = some (.slice (some ⟨g, 0, none⟩) (512 * D.L.length) c) := h.row.cell 0
  have hm := h.good.many
  have hl : D.L.flatten.length ≤ 140737488355328 := by rw [secs_len h.good.secs]; omega
  have HB := Lib.hid hB; have HL := Lib.hid hl
  clear h hF hB hl
  go_enter Try.func32, Try.ntmps32
  go_wp2_with fail
  refine (slices_Clone _ _ _ _ _ HB.out HL.out).mono ?_
  rintro e w' ⟨v1, rfl, ho, hb⟩
  go_wp2
  go_ret
  exact ⟨v1, rfl, ho, hb⟩
/-- A new disk. -/
def NewDk (D : Dk) (w : World) (e : Ending) (w' : World) : Prop :=
  ∃ p, e = .returned (.pointer (some ⟨p, 0, none⟩)) ∧ DkRep w' p D (fun k => w.heap.size ≤ k) ∧ w.heap.size ≤ p ∧ Below w.heap.size w w'
set_option maxHeartbeats 1000000 in
theorem disk_Of (w : World) (a : Option Addr) (n c : Nat) (b : List UInt8) (hb : Bs w a n c b) (L : List (List UInt8)) (hs : Secs L) (hL : L.flatten = b) (h2 : 2 ≤ L.length) (h3 : L.length ≤ 128) :
    Calls Try.prog 35 #[.slice a n c] w (NewDk ⟨L, [], false, -1⟩ w) := by
  have hn := hb.len
  have hc := Sl.cap hb; have hr := Sl.room hb
  have hlen := secs_len hs
  rw [hL] at hlen
  rw [hlen] at hn
  subst hn
  have e1 : ((512 * (L.length : Int)) % 512 != 0) = false := by rw [bne_eq_false_iff_eq]; omega
  have hl : b.length ≤ 140737488355328 := by omega
  have HB := Lib.hid hb; have HL := Lib.hid hl; have HLL := Lib.hid hL; have HLN := Lib.hid hlen
  clear hb hl hL hlen
  go_enter Try.func35, Try.ntmps35
  go_wp2_with fail
  refine (slices_Clone _ _ _ _ _ HB.out HL.out).mono ?_
  rintro e w' ⟨v1, rfl, ho, hb⟩
  rw [HLN.out] at ho
  have HO := Lib.hid ho; have HBW := Lib.hid hb
  clear ho hb
  obtain ⟨a1, c1, rfl, ha1, _⟩ := Sl.of_owned HO.out
  go_wp2
  go_ret
  have hsz := HBW.out.size
  refine ⟨w'.heap.size, rfl, ⟨_, _, [], ⟨Row.made _ _ _, ?_, World.ownsRow_nil _ _ _ _, rfl, (fun x hx => by cases hx), ⟨hs, ⟨h2, h3⟩, (fun x hx => by cases hx), by show (-1 : Int) ≤ -1 ∧ (-1 : Int) ≤ _; decide⟩⟩, ?_⟩, hsz, HBW.out.alloc hsz _⟩
  · rw [HLL.out]; exact own_base (HO.out.alloc _) (Nat.zero_le _)
  · intro k hk
    rcases hk with rfl | hk | hk | ⟨x, hx, _⟩
    · exact hsz
    · exact (own_block_lt HO.out hk).1
    · cases hk
    · cases hx
theorem disk_Of_none (w : World) (a : Option Addr) (n c : Nat) (b : List UInt8) (hb : Bs w a n c b) (hf : ¬ (b.length % 512 = 0 ∧ 1024 ≤ b.length ∧ b.length ≤ 65536)) :
    Calls Try.prog 35 #[.slice a n c] w fun e w' => e = .returned (.pointer none) ∧ w = w' := by
  have hn := hb.len
  have hc := Sl.cap hb; have hr := Sl.room hb
  subst hn
  clear hb
  by_cases c1 : b.length % 512 = 0
  · have e1 : ((b.length : Int) % 512 != 0) = false := by rw [bne_eq_false_iff_eq]; omega
    by_cases c2 : (b.length : Int) / 512 < 2
    · clear c1 hf
      go_enter Try.func35, Try.ntmps35
      go_wp2
      go_ret
      exact ⟨rfl, rfl⟩
    · have c3 : 128 < (b.length : Int) / 512 := by omega
      clear c1 hf
      go_enter Try.func35, Try.ntmps35
      go_wp2
      go_ret
      exact ⟨rfl, rfl⟩
  · have e1 : ((b.length : Int) % 512 != 0) = true := by rw [bne_iff_ne]; omega
    clear c1 hf
    go_enter Try.func35, Try.ntmps35
    go_wp2
    go_ret
    exact ⟨rfl, rfl⟩
def zsec : List UInt8 := List.replicate 512 0
def zeroL (n : Nat) : List (List UInt8) := List.replicate n zsec
theorem zeroL_len (n : Nat) : (zeroL n).length = n := List.length_replicate ..
theorem zeroL_secs (n : Nat) : Secs (zeroL n) := fun s hs => by rw [List.eq_of_mem_replicate hs]; exact List.length_replicate ..
theorem zeroL_flat (n : Nat) : (zeroL n).flatten = List.replicate (512 * n) 0 := by
  unfold zeroL
  induction n with
  | zero => rfl
  | succ n ih => rw [List.replicate_succ, List.flatten_cons, ih, zsec, List.replicate_append_replicate, show 512 + 512 * n = 512 * (n + 1) by omega]
theorem mkBytes (w : World) (m : Int) (n : Nat) (hm : m = n) (hn : n ≤ 281474976710656) :
    (Instr.makeSlice 31 (.int .i64 m) (.int .i64 m)).run Try.prog w = .ok (.slice (some ⟨w.heap.size, 0, none⟩) n n) (w.alloc (.cells ((List.replicate n (0 : UInt8)).map bv).toArray 5 (0, 0))) := by
  have e : (List.replicate n (0 : UInt8)).map bv = List.replicate n (.int .u8 0) := by simp [bv]
  rw [e]
  exact run_mk1 (P := Try.prog) 31 5 _ _ Try.underlying31 info_u8 rfl m n hm (by omega) (by omega) w
theorem mkBs (w : World) (n : Nat) (hn : n ≤ 9223372036854775807) : Bs (w.alloc (.cells ((List.replicate n (0 : UInt8)).map bv).toArray 5 (0, 0))) (some ⟨w.heap.size, 0, none⟩) n n (List.replicate n 0) :=
  Sl.lit w 5 _ n 1 (by simp) hn
set_option maxRecDepth 100000 in
theorem disk_New (w : World) (s : Int) (n : Nat) (hs : s = n) (h2 : 2 ≤ n) (h3 : n ≤ 128) :
    Calls Try.prog 27 #[.int .i64 s] w (NewDk ⟨zeroL n, [], false, -1⟩ w) := by
  subst hs
  obtain ⟨N, hN⟩ : ∃ N, N = 512 * n := ⟨_, rfl⟩
  have hflat := zeroL_flat n
  rw [← hN] at hflat
  have hmk := mkBytes w ((n : Int) * 512) N (by omega) (by omega)
  have hB := mkBs w N (by omega)
  generalize hW : w.alloc (.cells ((List.replicate N (0 : UInt8)).map bv).toArray 5 (0, 0)) = W at hmk hB
  have hb : Below w.heap.size w W := by rw [← hW]; exact (Below.refl _ _).alloc (Nat.le_refl _) _
  have HFL := Lib.hid hflat
  clear hflat hN
  have HB := Lib.hid hB; have HBW := Lib.hid hb
  clear hB hb hW
  go_enter Try.func27, Try.ntmps27
  go_wp2_with fail
  clear hmk
  refine (disk_Of W _ _ _ _ HB.out (zeroL n) (zeroL_secs n) HFL.out (by rw [zeroL_len]; exact h2) (by rw [zeroL_len]; exact h3)).mono ?_
  rintro e w' ⟨p, rfl, h, hp, hb⟩
  have hsz := HBW.out.size
  have HR := Lib.hid h; have HB2 := Lib.hid (HBW.out.trans (hb.mono hsz))
  clear h hb
  go_wp2
  go_ret
  obtain ⟨vb, vw, it, h, hF⟩ := HR.out
  exact ⟨p, rfl, ⟨vb, vw, it, h, fun k hk => Nat.le_trans hsz (hF k hk)⟩, Nat.le_trans hsz hp, HB2.out⟩
theorem disk_New_none (w : World) (s : Int) (h : s < 2 ∨ 128 < s) : Calls Try.prog 27 #[.int .i64 s] w fun e w' => e = .returned (.pointer none) ∧ w = w' := by
  by_cases c1 : s < 2
  · clear h
    go_enter Try.func27, Try.ntmps27
    go_wp2
    go_ret
    exact ⟨rfl, rfl⟩
  · have c2 : 128 < s := by omega
    clear h
    go_enter Try.func27, Try.ntmps27
    go_wp2
    go_ret
    exact ⟨rfl, rfl⟩
end Go.Proofs.Ytjijniillehfoaa
