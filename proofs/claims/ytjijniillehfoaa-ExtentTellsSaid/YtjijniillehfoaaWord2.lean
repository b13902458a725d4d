import Derived.Test.YtjijniillehfoaaWord
namespace Go.Proofs.Ytjijniillehfoaa
open Go Go.RowKit Go.Own
set_option linter.unusedVariables false
theorem hmixed : Try.prog.follows .mixedOrders = true := by kernel_rfl

theorem word_Put4 (w : World) (v : Int) (h0 : 0 ≤ v) (h1 : v ≤ 4294967295) :
    Calls Try.prog 220 #[.int .u32 v] w (NewBs w (low v.toNat 4)) := by
  go_enter Try.func220, Try.ntmps220
  go_wp2_with fail
  refine (word_Put _ _ (by omega) (by omega)).mono ?_; rintro e w1 ⟨a, n, c, rfl, hB, hn, hb⟩
  have hl := hB.len
  rw [low_length] at hl
  subst hl
  have hc := Sl.cap hB
  obtain ⟨b, o, rfl, hlt⟩ := Sl.some hB (by decide) (by decide)
  have hx := Sl.recap (hB.cut 0 4 (by decide) (by decide)) 4 (by decide) (by decide)
  have HX := Lib.hid hx; have HN := Lib.hid hn; have HB := Lib.hid hb
  clear hx hn hb hB
  go_wp2
  go_ret
  exact ⟨_, _, _, rfl, HX.out, fun p hp => by cases hp; exact HN.out _ rfl, HB.out⟩

theorem run_s (w : World) {a : Option Addr} {n c : Nat} {l : List UInt8} (h : Bs w a n c l) : (Go.convert 31 9 (.slice a n c)).run Try.prog w = .ok (.string ⟨l.toArray⟩) w :=
  run_str Try.underlying31 Try.underlying9 Try.underlying5 h
end Go.Proofs.Ytjijniillehfoaa
