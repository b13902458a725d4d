import Derived.Test.YtibjcadingedaaaSlotR
namespace Go.Proofs.Ytibjcadingedaaa
open Go Go.RowKit Go.Own
set_option linter.unusedVariables false
theorem bytes_Equal (w : World) (a : Option Addr) (n c : Nat) (l : List UInt8) (a' : Option Addr) (n' c' : Nat) (l' : List UInt8) (h : Bs w a n c l) (h' : Bs w a' n' c' l') :
    Calls Try.prog 63 #[.slice a n c, .slice a' n' c'] w fun e w' => e = .returned (.bool (l == l')) ∧ w = w' := by
  have r1 := run_s w h
  have r2 := run_s w h'
  clear h h'
  go_enter Try.func63, Try.ntmps63
  go_wp2
  go_ret
  exact ⟨rfl, rfl⟩
theorem results_row2 {P : Program} {fn : Func} {p u : Tmp} {ty : TypeId} (h : fn.results = #[.cell p ty, .tmp u]) (tmps : Array Value) (w : World) (g : Nat) (t : TypeId) (cs : List Value) (d : TypeDesc)
    (hp : tmps.getD p undef = .pointer (some ⟨g, 0, none⟩)) (hg : Row w g t cs)
    (hu : P.underlying ty = some d) (hd : (match d with | .struct _ | .array _ _ => true | _ => false) = true) (hi : (P.info? ty).map (·.size) = some cs.length) :
    (results fn tmps).run P w = .ok (.tuple #[.agg cs.toArray, tmps.getD u undef]) w := by
  have hp' : tmps[p]?.getD undef = .pointer (some ⟨g, 0, none⟩) := by simpa using hp
  simp [results, h, hp', asAddr, run_loadVar_row w g t ty cs.toArray (0, 0) d hg hu hd (by simpa using hi)]

/-- What Get reads. -/
theorem isRec_get (l : List UInt8) (G S M : Nat) (hG : getV l 8 8 = G) (hS : getV l 16 8 = S) (hM : getV l 24 4 = M) :
    (isRec l = (decide (recOk G S = true) && (recB G S M == l))) ∧ (isRec l = true → fld l 8 8 = G ∧ fld l 16 8 = S ∧ fld l 24 4 = M) := by
  by_cases h : 28 ≤ l.length
  · have e1 : fld l 8 8 = G := by
      have : getV l 8 8 = ((fld l 8 8 : Nat) : Int) := by unfold getV fld; rw [if_pos (by omega)]; rfl
      omega
    have e2 : fld l 16 8 = S := by
      have : getV l 16 8 = ((fld l 16 8 : Nat) : Int) := by unfold getV fld; rw [if_pos (by omega)]; rfl
      omega
    have e3 : fld l 24 4 = M := by
      have : getV l 24 4 = ((fld l 24 4 : Nat) : Int) := by unfold getV fld; rw [if_pos (by omega)]; rfl
      omega
    refine ⟨?_, fun _ => ⟨e1, e2, e3⟩⟩
    unfold isRec
    rw [e1, e2, e3, Bool.eq_iff_iff]
    simp
  · have hn : ∀ g s m, recOk g s = true → ¬ recB g s m = l := by
      intro g s m hk he
      have := recB_length g s m hk
      rw [he] at this; omega
    have h0 : isRec l = false := by
      unfold isRec
      exact decide_eq_false fun hh => hn _ _ _ hh.1 hh.2
    refine ⟨?_, fun h1 => by rw [h0] at h1; cases h1⟩
    rw [h0]
    cases hk : recOk G S with
    | false => simp
    | true => have := hn G S M hk; simp [this]
/-- What Get tells: the record and whether it is one. -/
def rg (l : List UInt8) : Nat := if isRec l then fld l 8 8 else 0
def rs (l : List UInt8) : Nat := if isRec l then fld l 16 8 else 0
def rm (l : List UInt8) : Nat := if isRec l then fld l 24 4 else 0
def recV (l : List UInt8) : Value := .tuple #[.agg #[.int .u64 (rg l : Nat), .int .u64 (rs l : Nat), .int .u32 (rm l : Nat)], .bool (isRec l)]
theorem recV_none {l : List UInt8} (h : isRec l = false) : recV l = .tuple #[.agg #[.int .u64 0, .int .u64 0, .int .u32 0], .bool false] := by
  unfold recV rg rs rm; rw [h]; rfl
theorem recV_some {l : List UInt8} {G S M : Nat} (h : isRec l = true) (e : fld l 8 8 = G ∧ fld l 16 8 = S ∧ fld l 24 4 = M) : recV l = .tuple #[.agg #[.int .u64 G, .int .u64 S, .int .u32 M], .bool true] := by
  unfold recV rg rs rm; rw [h, if_pos rfl, if_pos rfl, if_pos rfl, e.1, e.2.1, e.2.2]
theorem info_rec : Info Try.prog 63 (.agg #[.int .u64 0, .int .u64 0, .int .u32 0]) 3 24 := by unfold Info; kernel_rfl
theorem size_rec : (Try.prog.info? 63).map (·.size) = some 3 := by kernel_rfl

set_option maxHeartbeats 4000000 in
theorem slot_Get (w : World) (a : Option Addr) (n c : Nat) (l : List UInt8) (h : Bs w a n c l) :
    Calls Try.prog 45 #[.slice a n c] w fun e w' => e = .returned (recV l) ∧ Below w.heap.size w w' := by
  obtain ⟨G, hG⟩ : ∃ G : Nat, getV l 8 8 = G := ⟨(getV l 8 8).toNat, by have := (getV_lt l 8 8 (by decide)).1; omega⟩
  obtain ⟨S, hS⟩ : ∃ G : Nat, getV l 16 8 = G := ⟨(getV l 16 8).toNat, by have := (getV_lt l 16 8 (by decide)).1; omega⟩
  obtain ⟨M, hM⟩ : ∃ G : Nat, getV l 24 4 = G := ⟨(getV l 24 4).toNat, by have := (getV_lt l 24 4 (by decide)).1; omega⟩
  obtain ⟨i1, i2⟩ := isRec_get l G S M hG hS hM
  have g1 : G < 18446744073709551616 := by have := (getV_lt l 8 8 (by decide)).2; rw [hG] at this; simp at this; omega
  have g2 : S < 18446744073709551616 := by have := (getV_lt l 16 8 (by decide)).2; rw [hS] at this; simp at this; omega
  have g3 : M < 4294967296 := by have := (getV_lt l 24 4 (by decide)).2; rw [hM] at this; simp at this; omega
  have c1 := fun (w : World) (h : Bs w a n c l) => word_Get w a n c l 8 h (by decide) (by decide)
  have c2 := fun (w : World) (h : Bs w a n c l) => word_Get w a n c l 16 h (by decide) (by decide)
  have c3 := fun (w : World) (h : Bs w a n c l) => word_Get4 w a n c l 24 h (by decide) (by decide)
  rw [hG] at c1; rw [hS] at c2; rw [hM] at c3
  generalize getOk l 8 8 = o1 at c1
  generalize getOk l 16 8 = o2 at c2
  generalize getOk l 24 4 = o3 at c3
  have H := Lib.hid h; have I1 := Lib.hid i1; have I2 := Lib.hid i2; have C1 := Lib.hid c1; have C2 := Lib.hid c2; have C3 := Lib.hid c3
  clear hG hS hM h i1 i2 c1 c2 c3
  go_enter Try.func45, Try.ntmps45
  go_wp2_with (first
    | (refine alloc_row rfl 63 rfl _ _ _ info_rec [.int .u64 0, .int .u64 0, .int .u32 0] rfl ?_))
  have hr : Row (w.alloc (.cells #[.int .u64 0, .int .u64 0, .int .u32 0] 63 (0, 0))) w.heap.size 63 [.int .u64 0, .int .u64 0, .int .u32 0] := Row.made _ _ _
  have hb0 : Below w.heap.size w (w.alloc (.cells #[.int .u64 0, .int .u64 0, .int .u32 0] 63 (0, 0))) := (Below.refl _ _).alloc (Nat.le_refl _) _
  have hsz : (w.alloc (.cells #[.int .u64 0, .int .u64 0, .int .u32 0] 63 (0, 0))).heap.size = w.heap.size + 1 := by simp
  have hB := H.out.below hb0
  generalize hW : w.alloc (.cells #[.int .u64 0, .int .u64 0, .int .u32 0] 63 (0, 0)) = W0 at hr hb0 hsz hB ⊢
  clear hW H
  have HR := Lib.hid hr; have HB := Lib.hid hB; have H0 := Lib.hid hb0
  clear hr hB hb0
  refine (C1.out _ HB.out).mono ?_
  rintro e w' ⟨rfl, rfl⟩
  go_wp2_with fail
  refine (C2.out _ HB.out).mono ?_
  rintro e w' ⟨rfl, rfl⟩
  go_wp2_with fail
  refine (C3.out _ HB.out).mono ?_
  rintro e w' ⟨rfl, rfl⟩
  clear C1 C2 C3
  go_wp2_with (first
    | (refine alloc_row rfl 63 rfl _ _ _ info_rec [.int .u64 0, .int .u64 0, .int .u32 0] rfl ?_)
    | (refine store_row rfl 63 _ _ rfl W0.heap.size rfl [.int .u64 G, .int .u64 S, .int .u32 M] rfl _ [.int .u64 0, .int .u64 0, .int .u32 0] (Row.made _ _ _) size_rec rfl (by simp [Value.oneCell']) ?_; intro w1 hr1 hk1; rw [hsz] at hr1; have k0 : w1.cell? ⟨w.heap.size + 1, 0, none⟩ = some (.int .u64 G) := hr1.cell 0; have k1 : w1.cell? ⟨w.heap.size + 1, 1, none⟩ = some (.int .u64 S) := hr1.cell 1; have k2 : w1.cell? ⟨w.heap.size + 1, 2, none⟩ = some (.int .u32 M) := hr1.cell 2))
  have b01 : Below W0.heap.size W0 w1 := ((Below.refl _ _).alloc (Nat.le_refl _) _).trans (hk1.below (by simp) (by intro k hk; omega))
  have b1 : Below w.heap.size w w1 := H0.out.trans (b01.mono H0.out.size)
  have hr0 := HR.out.below b01
  have hB1 := HB.out.below b01
  have hsz1 := b01.size
  refine (slot_Put _ G S M g1 g2 g3).mono ?_
  rintro e w2 ⟨a2, n2, c2, rfl, hB2, hn2, hb2⟩
  have hr2 := hr0.below hb2
  have hr12 := hr1.below hb2
  have hB12 := hB1.below hb2
  have b2 := b1.trans (hb2.mono (by omega))
  clear HR HB H0 hr0 hr1 hB1 k0 k1 k2 hk1 b01 hn2
  cases hk : recOk G S with
  | false =>
    rw [recB_none G S M hk] at hB2
    obtain rfl : n2 = 0 := hB2.len
    rw [hk] at I1
    have hi : isRec l = false := by have := I1.out; simpa using this
    have HI := Lib.hid hi
    clear hi I1 I2 hk hB2 hr12
    go_wp2_with (first
      | (refine store_row rfl 63 _ _ rfl w.heap.size rfl [.int .u64 0, .int .u64 0, .int .u32 0] rfl _ [.int .u64 0, .int .u64 0, .int .u32 0] hr2 size_rec rfl (by simp [Value.oneCell']) ?_; intro w3 hr3 hk3))
    refine bodyPost_ret (results_row2 rfl _ _ w.heap.size _ _ _ rfl hr3 Try.underlying63 rfl size_rec) rfl ⟨?_, ?_⟩
    · rw [recV_none HI.out]; rfl
    · exact b2.trans (hk3.below b2.size fun k hk => by omega)
  | true =>
    have hn2 := hB2.len
    rw [recB_length G S M hk] at hn2
    subst hn2
    go_wp2_with fail
    refine (bytes_Equal _ _ _ _ _ _ _ _ _ hB2 hB12).mono ?_
    rintro e w3 ⟨rfl, rfl⟩
    rw [hk] at I1
    cases he : (recB G S M == l) with
    | false =>
      rw [he] at I1
      have hi : isRec l = false := by have := I1.out; simpa using this
      have HI := Lib.hid hi
      clear hi I1 I2 hk he hB2 hB12 hr12
      go_wp2_with (first
        | (refine store_row rfl 63 _ _ rfl w.heap.size rfl [.int .u64 0, .int .u64 0, .int .u32 0] rfl _ [.int .u64 0, .int .u64 0, .int .u32 0] hr2 size_rec rfl (by simp [Value.oneCell']) ?_; intro w3 hr3 hk3))
      refine bodyPost_ret (results_row2 rfl _ _ w.heap.size _ _ _ rfl hr3 Try.underlying63 rfl size_rec) rfl ⟨?_, ?_⟩
      · rw [recV_none HI.out]; rfl
      · exact b2.trans (hk3.below b2.size fun k hk => by omega)
    | true =>
      rw [he] at I1
      have hi : isRec l = true := by have := I1.out; simpa using this
      have HI := Lib.hid hi
      have k0 : w2.cell? ⟨w.heap.size + 1, 0, none⟩ = some (.int .u64 G) := hr12.cell 0
      have k1 : w2.cell? ⟨w.heap.size + 1, 1, none⟩ = some (.int .u64 S) := hr12.cell 1
      have k2 : w2.cell? ⟨w.heap.size + 1, 2, none⟩ = some (.int .u32 M) := hr12.cell 2
      clear hi I1 hk he hB2 hB12 hr12
      go_wp2_with (first
        | (refine store_row rfl 63 _ _ rfl w.heap.size rfl [.int .u64 G, .int .u64 S, .int .u32 M] rfl _ [.int .u64 0, .int .u64 0, .int .u32 0] hr2 size_rec rfl (by simp [Value.oneCell']) ?_; intro w3 hr3 hk3))
      refine bodyPost_ret (results_row2 rfl _ _ w.heap.size _ _ _ rfl hr3 Try.underlying63 rfl size_rec) rfl ⟨?_, ?_⟩
      · rw [recV_some HI.out (I2.out HI.out)]; rfl
      · exact b2.trans (hk3.below b2.size fun k hk => by omega)
end Go.Proofs.Ytibjcadingedaaa
