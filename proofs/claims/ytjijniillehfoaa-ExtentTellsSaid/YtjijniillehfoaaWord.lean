import Derived.Test.YtjijniillehfoaaProg
import Derived.Test.YtjijniillehfoaaBase
import Derived.Test.YtjijniillehfoaaNum
import Derived.Lib.Hide
import Derived.WalkSpells
namespace Go.Proofs.Ytjijniillehfoaa
open Go Go.RowKit Go.Own
set_option linter.unusedVariables false

theorem info_u8 : Info Try.prog 5 (.int .u8 0) 1 1 := by unfold Info; kernel_rfl
def getV (l : List UInt8) (at_ n : Int) : Int := if at_ + n ≤ l.length then num ((l.drop at_.toNat).take n.toNat) else 0
def getOk (l : List UInt8) (at_ n : Int) : Bool := decide (at_ + n ≤ l.length)

set_option maxHeartbeats 1000000 in
theorem word_get (w : World) (a : Option Addr) (m c : Nat) (l : List UInt8) (at_ : Int) (n : Int) (h : Bs w a m c l)
    (h0 : 0 ≤ at_) (h1 : at_ ≤ 18446744073709551615) (hn0 : 0 ≤ n) (hn : n ≤ 8) :
    Calls Try.prog 225 #[.slice a m c, .int .u64 at_, .int .u64 n] w fun e w' =>
      e = .returned (.tuple #[.int .u64 (getV l at_ n), .bool (getOk l at_ n)]) ∧ w = w' := by
  have hl := h.len; have hc := Sl.cap h; have hr := Sl.room h; have hcell := h.at; clear h
  go_enter Try.func225, Try.ntmps225
  go_wp2
  · go_ret2
    exact ⟨rIB (by rw [getV, if_neg (by omega)]) (decF (by omega)), rfl⟩
  · obtain ⟨A, rfl⟩ : ∃ A : Nat, at_ = A := ⟨at_.toNat, by omega⟩
    obtain ⟨N, rfl⟩ : ∃ N : Nat, n = N := ⟨n.toNat, by omega⟩
    go_loop [9, 25] (fun v i => ∃ k : Nat, k ≤ N ∧ i = .int .u64 k ∧ v = .int .u64 (num ((l.drop A).take k) : Nat)) (fun _ i => N - (intOf i).toNat)
    case atStart => exact ⟨0, Nat.zero_le _, rfl, rfl⟩
    case round =>
      obtain ⟨k, hk, rfl, rfl⟩ := hrel
      by_cases hlt : k < N
      · obtain ⟨b, o, rfl, hx⟩ := hcell (A + k) (by omega)
        have hlen : k < (l.drop A).length := by rw [List.length_drop]; omega
        have hs := num_snoc (l.drop A) k hlen
        have hv : num ((l.drop A).take k) < 256 ^ k := by
          have := num_lt ((l.drop A).take k); rwa [List.length_take, Nat.min_eq_left (by omega)] at this
        have he : (l.drop A)[k] = l[A + k] := by rw [List.getElem_drop]
        rw [he, ← Int.ofNat_inj, ← or_shl _ _ k (by omega) hv] at hs
        have HS := Lib.hid hs
        clear hs he hv
        go_wp2
        refine ⟨⟨k + 1, by omega, by go_num, vI HS.out.symm⟩, by simp [intOf]; omega⟩
      · obtain rfl : k = N := by omega
        go_wp2
        go_ret2
        exact ⟨rIB (by rw [getV, if_pos (by omega)]; simp) (decT (by omega)), rfl⟩
  · go_ret2
    exact ⟨rIB (by rw [getV, if_neg (by omega)]) (decF (by omega)), rfl⟩

theorem getV_lt (l : List UInt8) (at_ n : Int) (h0 : 0 ≤ n) : 0 ≤ getV l at_ n ∧ getV l at_ n < 256 ^ n.toNat := by
  unfold getV; split
  · have := num_lt ((l.drop at_.toNat).take n.toNat)
    have hl : ((l.drop at_.toNat).take n.toNat).length ≤ n.toNat := List.length_take_le _ _
    have := Nat.pow_le_pow_right (n := 256) (by decide) hl
    refine ⟨by omega, ?_⟩
    have e : ((256 : Int) ^ n.toNat) = ((256 ^ n.toNat : Nat) : Int) := by simp
    rw [e]; omega
  · exact ⟨Int.le_refl _, Int.pow_pos (by decide)⟩
theorem word_Get (w : World) (a : Option Addr) (m c : Nat) (l : List UInt8) (at_ : Int) (h : Bs w a m c l) (h0 : 0 ≤ at_) (h1 : at_ ≤ 18446744073709551615) :
    Calls Try.prog 174 #[.slice a m c, .int .u64 at_] w fun e w' => e = .returned (.tuple #[.int .u64 (getV l at_ 8), .bool (getOk l at_ 8)]) ∧ w = w' := by
  have H := Lib.hid h; clear h
  go_enter Try.func174, Try.ntmps174
  go_wp2_with (go_at_call 225; refine (word_get _ _ _ _ l _ _ H.out h0 h1 (by decide) (by decide)).mono ?_; rintro e w' ⟨rfl, rfl⟩)
  go_ret2
  exact ⟨rfl, rfl⟩
theorem word_Get4 (w : World) (a : Option Addr) (m c : Nat) (l : List UInt8) (at_ : Int) (h : Bs w a m c l) (h0 : 0 ≤ at_) (h1 : at_ ≤ 18446744073709551615) :
    Calls Try.prog 224 #[.slice a m c, .int .u64 at_] w fun e w' => e = .returned (.tuple #[.int .u32 (getV l at_ 4), .bool (getOk l at_ 4)]) ∧ w = w' := by
  have H := Lib.hid h; clear h
  obtain ⟨g0, g1⟩ := getV_lt l at_ 4 (by decide)
  have e : IntKind.u32.wrap (getV l at_ 4) = getV l at_ 4 := wrapU32 g0 (by simpa using g1)
  go_enter Try.func224, Try.ntmps224
  go_wp2_with (go_at_call 225; refine (word_get _ _ _ _ l _ _ H.out h0 h1 (by decide) (by decide)).mono ?_; rintro e w' ⟨rfl, rfl⟩)
  go_ret2
  exact ⟨rfl, rfl⟩

set_option maxHeartbeats 1000000 in
theorem word_Put (w : World) (v : Int) (h0 : 0 ≤ v) (h1 : v ≤ 18446744073709551615) :
    Calls Try.prog 164 #[.int .u64 v] w (NewBs w (low v.toNat 8)) := by
  have hmk := run_mk1 (P := Try.prog) 31 5 _ _ Try.underlying31 info_u8 rfl 8 8 rfl (by decide) (by decide)
  go_enter Try.func164, Try.ntmps164
  go_wp2
  obtain ⟨V, rfl⟩ : ∃ V : Nat, v = V := ⟨v.toNat, by omega⟩
  have h0 : Row (w.alloc (.cells (List.replicate 8 (Value.int .u8 0)).toArray 5 (0, 0))) w.heap.size 5 (List.replicate 8 (Value.int .u8 0)) := Row.made _ _ _
  have H0 := Lib.hid h0; clear h0
  go_loopw [8] (fun i wr => ∃ k : Nat, k ≤ 8 ∧ i = .int .i64 k ∧ Row wr w.heap.size 5 ((low V k).map bv ++ List.replicate (8 - k) (.int .u8 0)) ∧ Below w.heap.size w wr) (fun i _ => 8 - (intOf i).toNat)
  case atStart => exact ⟨0, by omega, rfl, H0.out, (Below.refl _ _).alloc (Nat.le_refl _) _⟩
  case round =>
    obtain ⟨k, hk, rfl, hrow, hb⟩ := hrel
    by_cases hlt : k < 8
    · have hl : ((low V k).map bv).length = k := by rw [List.length_map, low_length]
      have hc : wr.cell? ⟨w.heap.size, k, none⟩ = some (.int .u8 0) := by
        rw [hrow.cell, List.getElem?_append_right (by omega), hl, Nat.sub_self, List.getElem?_replicate, if_pos (by omega)]
      have hf := hrow.frozen k
      have hr2 := hrow.set k (bv (UInt8.ofNat (V / 256 ^ k)))
      have hb2 := hb.setCell (p := ⟨w.heap.size, k, none⟩) (Nat.le_refl _) (bv (UInt8.ofNat (V / 256 ^ k)))
      have hset : ((low V k).map bv ++ List.replicate (8 - k) (Value.int .u8 0)).set k (bv (UInt8.ofNat (V / 256 ^ k))) = (low V (k + 1)).map bv ++ List.replicate (8 - (k + 1)) (.int .u8 0) := by
        rw [List.set_append_right _ _ (by omega), hl, Nat.sub_self, show 8 - k = (8 - (k + 1)) + 1 by omega, List.replicate_succ, List.set_cons_zero, low_snoc, List.map_append]; simp
      rw [hset] at hr2
      have hv : bv (UInt8.ofNat (V / 256 ^ k)) = .int .u8 ((V : Int) / 2 ^ (8 * k) % 256) := by
        rw [bv, show ((2 : Int) ^ (8 * k)) = ((256 ^ k : Nat) : Int) from by rw [← two_eight]; simp, ← Int.natCast_ediv]; simp
      rw [hv] at hr2 hb2
      have HR := Lib.hid hr2; have HB := Lib.hid hb2
      clear hr2 hb2 hset hv hl hrow hb
      go_wp2
      exact ⟨⟨k + 1, by omega, by go_num, HR.out, HB.out⟩, by simp [intOf]; omega⟩
    · obtain rfl : k = 8 := by omega
      go_wp2
      go_ret
      exact ⟨_, _, _, rfl, Bs.of_row hrow (by rw [low_length]) (Nat.le_refl _) (by decide), fun p hp => by cases hp; exact Nat.le_refl _, hb⟩

set_option maxHeartbeats 1000000 in
theorem ref_Num (w : World) (a : Option Addr) (m c : Nat) (l : List UInt8) (h : Bs w a m c l) (h8 : l.length ≤ 8) :
    Calls Try.prog 177 #[.slice a m c] w fun e w' => e = .returned (.int .u64 (num l : Nat)) ∧ w = w' := by
  have hl := h.len; have hc := Sl.cap h; have hr := Sl.room h; have hcell := h.at; clear h
  obtain rfl := hl
  go_enter Try.func177, Try.ntmps177
  go_wp2
  go_loop [3, 4] (fun v i => ∃ k : Nat, k ≤ l.length ∧ i = .int .i64 ((k : Int) - 1) ∧ v = .int .u64 (num (l.drop k) : Nat)) (fun _ i => (intOf i + 1).toNat)
  case atStart => exact ⟨l.length, Nat.le_refl _, rfl, by simp [num]⟩
  case round =>
    obtain ⟨k, hk, rfl, rfl⟩ := hrel
    by_cases hlt : 0 < k
    · obtain ⟨j, rfl⟩ : ∃ j, k = j + 1 := ⟨k - 1, by omega⟩
      obtain ⟨b, o, rfl, hx⟩ := hcell j (by omega)
      have he : ((j + 1 : Nat) : Int) - 1 = j := by omega
      rw [he]
      have hd : num (l.drop j) = l[j].toNat + 256 * num (l.drop (j + 1)) := by rw [List.drop_eq_getElem_cons (by omega)]; rfl
      have hb : num (l.drop j) < 18446744073709551616 := by
        have h1 := num_lt (l.drop j)
        have h2 := Nat.pow_le_pow_right (n := 256) (by decide) (show (l.drop j).length ≤ 8 by rw [List.length_drop]; omega)
        omega
      have HD : Hid (num (l.drop j) = l[j].toNat + 256 * num (l.drop (j + 1))) := Lib.hid hd
      have hb2 : 256 * (num (l.drop (j + 1)) : Int) + (l[j].toNat : Int) < 18446744073709551616 := by omega
      have hx2 := l[j].toNat_lt
      clear hd he
      go_wp2
      exact ⟨⟨j, by omega, rfl, vI (by have := HD.out; omega)⟩, by simp [intOf]⟩
    · obtain rfl : k = 0 := by omega
      go_wp2
      go_ret
      exact ⟨rI (by simp), rfl⟩

theorem ref_Get (w : World) (a : Option Addr) (m c : Nat) (l : List UInt8) (at_ : Int) (n : Int) (h : Bs w a m c l) (h0 : 0 ≤ at_) (h1 : at_ ≤ 18446744073709551615) (hn0 : 0 < n) (hn : n ≤ 8) :
    Calls Try.prog 219 #[.slice a m c, .int .u64 at_, .int .i64 n] w fun e w' => e = .returned (.tuple #[.int .u64 (getV l at_ n), .bool (getOk l at_ n)]) ∧ w = w' := by
  have hm := h.len
  have hr := Sl.room h
  have hc := Sl.cap h
  obtain rfl := hm
  by_cases hf : at_ + n ≤ l.length
  · obtain ⟨A, rfl⟩ : ∃ A : Nat, at_ = A := ⟨at_.toNat, by omega⟩
    obtain ⟨N, rfl⟩ : ∃ N : Nat, n = N := ⟨n.toNat, by omega⟩
    obtain ⟨b, o, rfl, hb⟩ := Sl.some h (by omega) (by decide)
    have hcut := h.cut A (A + N) (by omega) (by omega)
    have hle : ((l.take (A + N)).drop A).length ≤ 8 := by rw [List.length_drop, List.length_take]; omega
    have hne : ¬ c = A := by omega
    have hx : A + N - A = N := by omega
    rw [hx] at hcut
    have HC := Lib.hid hcut; have H := Lib.hid h; clear hcut h hx
    go_enter Try.func219, Try.ntmps219
    go_wp2_with (go_at_call 177; refine (ref_Num _ _ _ _ _ HC.out hle).mono ?_; rintro e w' ⟨rfl, rfl⟩)
    go_ret2
    exact ⟨rIB (by rw [getV, if_pos hf, List.drop_take]; simp) (decT hf), rfl⟩
  · go_enter Try.func219, Try.ntmps219
    go_wp2
    all_goals go_ret2
    all_goals exact ⟨rIB (by rw [getV, if_neg (by omega)]) (decF (by omega)), rfl⟩

/-- Own: new bytes that may be appended to. -/
def OwnBs (w : World) (l : List UInt8) (e : Ending) (w' : World) : Prop :=
  ∃ v, e = .returned v ∧ w'.ownsRow w.heap.size 5 1 v l.length (l.map bv) ∧ Below w.heap.size w w'
set_option maxHeartbeats 1000000 in
theorem ref_Low (w : World) (v : Int) (n : Int) (N : Nat) (hN : n = N) (h0 : 0 ≤ v) (h1 : v ≤ 18446744073709551615) (hn : N ≤ 8) :
    Calls Try.prog 170 #[.int .u64 v, .int .i64 n] w (OwnBs w (low v.toNat N)) := by
  subst hN
  go_enter Try.func170, Try.ntmps170
  go_wp2
  obtain ⟨V, rfl⟩ : ∃ V : Nat, v = V := ⟨v.toNat, by omega⟩
  go_loopw [0, 5, 6] (fun v o i wr => ∃ k q : Nat, k ≤ N ∧ i = .int .i64 k ∧ v = .int .u64 q ∧ q = V / 256 ^ k ∧ wr.ownsRow w.heap.size 5 1 o k ((low V k).map bv) ∧ Below w.heap.size w wr) (fun _ _ i _ => N - (intOf i).toNat)
  case atStart => exact ⟨0, V, by omega, rfl, rfl, by simp, World.ownsRow_nil _ _ _ _, Below.refl _ _⟩
  case round =>
    obtain ⟨k, q, hk, rfl, rfl, hq, hown, hb⟩ := hrel
    by_cases hlt : k < N
    · have hd : q ≤ V := by rw [hq]; exact Nat.div_le_self _ _
      have hsz := hb.size
      have HQ := Lib.hid hq
      clear hq
      go_wp2_with (at_builtin; go_must (refine app_sl rfl _ _ 31 rfl w.heap.size 5 (.int .u8 0) 1 1 Try.underlying31 info_u8 rfl (by decide) _ k _ rfl (hown.alloc _) _ 1 1 _ rfl (Sl.lit _ _ [_] 1 1 rfl (by decide)) (one1 rfl) (by omega) (by omega) (le_alloc hsz _) ?_; intro v1 w1 hown1 hg1))
      have hb1 := (hb.alloc hsz _).trans hg1
      refine ⟨⟨k + 1, q / 256, by omega, by go_num, by simp, ?_, ownsRow_map hown1 rfl ?_, hb1⟩, by simp [intOf]; omega⟩
      · rw [HQ.out, Nat.div_div_eq_div_mul, Nat.pow_succ]
      · rw [low_snoc, List.map_append, ← HQ.out, List.map_singleton, bv_nat]
    · obtain rfl : k = N := by omega
      go_wp2
      go_ret
      exact ⟨_, rfl, ownsRow_map hown (by rw [low_length]) (by simp), hb⟩
end Go.Proofs.Ytjijniillehfoaa
