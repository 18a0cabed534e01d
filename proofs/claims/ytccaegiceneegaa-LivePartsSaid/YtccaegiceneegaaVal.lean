/- The walks of the package value, and of the document's words. The condition: the word is one that fits. -/
import Derived.Test.YtccaegiceneegaaBase
import Derived.Test.YtccaegiceneegaaReach
namespace Go.Proofs.Ytccaegiceneegaa
open Go.RowKit

theorem and_one_any (n : Int) : bits .and .i64 n 1 = n % 2 := by
  have h1 : (BitVec.ofInt 64 1).toNat = 2 ^ 1 - 1 := by decide
  have key : (BitVec.ofInt 64 n &&& BitVec.ofInt 64 1).toNat = (n % ((2 ^ 64 : Nat) : Int)).toNat % 2 ^ 1 := by
    rw [BitVec.toNat_and, BitVec.toNat_ofInt, h1, Nat.and_two_pow_sub_one_eq_mod]
  show IntKind.i64.wrap ((BitVec.ofInt 64 n &&& BitVec.ofInt 64 1).toNat : Nat) = n % 2
  rw [key, IntKind.wrap_i64]
  omega
theorem tdiv_even {a : Int} (h : a % 2 = 0) : a.tdiv 2 = a / 2 := by
  obtain ⟨k, rfl⟩ : ∃ k, a = 2 * k := ⟨a / 2, by omega⟩
  rw [Int.mul_tdiv_cancel_left _ (by omega)]; omega
theorem wrap_half {a : Int} (h1 : -9223372036854775808 ≤ a) (h2 : a ≤ 9223372036854775807) : wrap64 (a / 2) = a / 2 := IntWalk.wrap64_in _ (by omega)
theorem ret_place {k : Nat} {a b : Int} (h : a = b) : Ending.returned (.iface k (.int .i64 a)) = .returned (.iface k (.int .i64 b)) := by rw [h]

theorem valOf (v : Int) (hv : fitsW v) (w : World) : Calls Try.prog 125 #[.int .i64 v] w fun e w' => e = .returned (if oddW v then .iface 170 (.int .i64 ((v - 1) / 2)) else .iface 175 (.int .i64 (v / 2))) ∧ w = w' := by
  obtain ⟨h1, h2⟩ := hv
  have hb := and_one_any v
  have hm := Int.emod_two_eq v
  rcases hm with hm | hm
  · rw [hm] at hb
    have hf : oddW v = false := by simp [oddW, hm]
    have hd := tdiv_even hm
    rw [hf]
    clear hf
    have HD := Lib.hid hd
    clear hd hm
    go_enter Try.func125, Try.ntmps125
    go_wp2
    go_ret
    exact ⟨by rw [← HD.out]; rfl, rfl⟩
  · rw [hm] at hb
    have hf : oddW v = true := by simp [oddW, hm]
    have hd := tdiv_even (a := v - 1) (by omega)
    rw [hf]
    clear hf
    have h3 : -9223372036854775807 ≤ v := by omega
    have hw1 : wrap64 (v - 1) = v - 1 := IntWalk.wrap64_in _ (by omega)
    have hw2 := wrap_half (a := v - 1) (by omega) (by omega)
    have HD := Lib.hid (show wrap64 ((wrap64 (v - 1)).tdiv 2) = (v - 1) / 2 by rw [hw1, hd, hw2])
    clear hd hm hw1 hw2 h3
    go_enter Try.func125, Try.ntmps125
    go_wp2
    go_ret
    exact ⟨ret_place HD.out, rfl⟩

theorem ta_place (v : Value) (w : World) : (Instr.typeAssert (.iface 170 v) 20 170 true).run Try.prog w = .ok (.tuple #[v, .bool true]) w := by kernel_rfl
theorem ta_place_no (v : Value) (w : World) : (Instr.typeAssert (.iface 175 v) 20 170 true).run Try.prog w = .ok (.tuple #[.int .i64 0, .bool false]) w := by kernel_rfl
theorem ta_number (v : Value) (w : World) : (Instr.typeAssert (.iface 175 v) 20 175 true).run Try.prog w = .ok (.tuple #[v, .bool true]) w := by kernel_rfl
theorem ta_number_no (v : Value) (w : World) : (Instr.typeAssert (.iface 170 v) 20 175 true).run Try.prog w = .ok (.tuple #[.int .i64 0, .bool false]) w := by kernel_rfl

theorem valIsPtr (v : Int) (hv : fitsW v) (w : World) : Calls Try.prog 104 #[.int .i64 v] w fun e w' => e = .returned (.bool (oddW v)) ∧ w = w' := by
  have hc := valOf v hv w
  have t1 := ta_place
  have t2 := ta_place_no
  cases ho : oddW v
  all_goals
    rw [ho] at hc
    simp only [if_true, Bool.false_eq_true, if_false] at hc
    clear ho
    go_enter Try.func104, Try.ntmps104
    go_wp2_with (go_at_call 125; refine hc.mono ?_; rintro e w1 ⟨rfl, rfl⟩)
    go_ret
    exact ⟨rfl, rfl⟩
theorem valAt (v : Int) (hv : fitsW v) (w : World) : Calls Try.prog 106 #[.int .i64 v] w fun e w' => e = .returned (.int .i64 (ptrAt v)) ∧ w = w' := by
  have hc := valOf v hv w
  have t1 := ta_place
  have t2 := ta_place_no
  unfold ptrAt
  cases ho : oddW v
  all_goals
    rw [ho] at hc
    simp only [if_true, Bool.false_eq_true, if_false] at hc ⊢
    clear ho
    generalize (v - 1) / 2 = x at *
    go_enter Try.func106, Try.ntmps106
    go_wp2_with (go_at_call 125; refine hc.mono ?_; rintro e w1 ⟨rfl, rfl⟩)
    go_ret
    exact ⟨rfl, rfl⟩
theorem valNum (v : Int) (hv : fitsW v) (w : World) : Calls Try.prog 112 #[.int .i64 v] w fun e w' => e = .returned (.int .i64 (numOf v)) ∧ w = w' := by
  have hc := valOf v hv w
  have t1 := ta_number
  have t2 := ta_number_no
  unfold numOf
  cases ho : oddW v
  all_goals
    rw [ho] at hc
    simp only [if_true, Bool.false_eq_true, if_false] at hc ⊢
    clear ho
    generalize v / 2 = x at *
    go_enter Try.func112, Try.ntmps112
    go_wp2_with (go_at_call 125; refine hc.mono ?_; rintro e w1 ⟨rfl, rfl⟩)
    go_ret
    exact ⟨rfl, rfl⟩

/-! ### the document's -/
theorem rIsPtr (v : Int) (w : World) : Calls Try.prog 77 #[.int .i64 v] w fun e w' => e = .returned (.bool (oddW v)) ∧ w = w' := by
  have hb := and_one_any v
  rcases Int.emod_two_eq v with hm | hm
  · rw [hm] at hb
    have hf : oddW v = false := by simp [oddW, hm]
    rw [hf]
    clear hf hm
    go_enter Try.func77, Try.ntmps77
    go_wp2
    go_ret
    exact ⟨rfl, rfl⟩
  · rw [hm] at hb
    have hf : oddW v = true := by simp [oddW, hm]
    rw [hf]
    clear hf hm
    go_enter Try.func77, Try.ntmps77
    go_wp2
    go_ret
    exact ⟨rfl, rfl⟩
theorem rAt (v : Int) (hv : fitsW v) (w : World) : Calls Try.prog 100 #[.int .i64 v] w fun e w' => e = .returned (.int .i64 (ptrAt v)) ∧ w = w' := by
  obtain ⟨h1, h2⟩ := hv
  have hc := rIsPtr v w
  rcases Int.emod_two_eq v with hm | hm
  · have hf : oddW v = false := by simp [oddW, hm]
    have hp : ptrAt v = -1 := by simp [ptrAt, hf]
    rw [hf] at hc
    rw [hp]
    clear hf hm hp
    go_enter Try.func100, Try.ntmps100
    go_wp2_with (go_at_call 77; refine hc.mono ?_; rintro e w1 ⟨rfl, rfl⟩)
    go_ret
    exact ⟨rfl, rfl⟩
  · have hf : oddW v = true := by simp [oddW, hm]
    have hp : ptrAt v = (v - 1) / 2 := by simp [ptrAt, hf]
    have hd := tdiv_even (a := v - 1) (by omega)
    have hw1 : wrap64 (v - 1) = v - 1 := IntWalk.wrap64_in _ (by omega)
    have hw2 := wrap_half (a := v - 1) (by omega) (by omega)
    have HD := Lib.hid (show wrap64 ((wrap64 (v - 1)).tdiv 2) = (v - 1) / 2 by rw [hw1, hd, hw2])
    rw [hf] at hc
    rw [hp]
    clear hf hm hp hd hw1 hw2
    go_enter Try.func100, Try.ntmps100
    go_wp2_with (go_at_call 77; refine hc.mono ?_; rintro e w1 ⟨rfl, rfl⟩)
    go_ret
    exact ⟨ret_int HD.out, rfl⟩
end Go.Proofs.Ytccaegiceneegaa
