/- Walks of the small functions on widths: valid, IsWidth, and both Wraps. -/
import Derived.Test.YtgmcajojigedaaaProg
import Derived.Test.YtgmcajojigedaaaBase
import Derived.Test.YtgmcajojigedaaaNum
set_option linter.unusedSimpArgs false
set_option linter.unusedVariables false
namespace Go.Proofs.Ytgmcajojigedaaa
open Go.RowKit

theorem ret_i {k : IntKind} {a b : Int} (h : a = b) : Ending.returned (.int k a) = .returned (.int k b) := by rw [h]

theorem valid_yes (a : Int) (w : World) (h1 : 2 ≤ a) (h2 : a ≤ 8) :
    Calls Try.prog 95 #[.int .i64 a] w fun e w' => e = .returned (.bool true) ∧ w = w' := by
  go_enter Try.func95, Try.ntmps95
  go_wp2
  go_ret
  exact ⟨rfl, rfl⟩
theorem valid_no (a : Int) (w : World) (h : a < 2 ∨ 8 < a) :
    Calls Try.prog 95 #[.int .i64 a] w fun e w' => e = .returned (.bool false) ∧ w = w' := by
  rcases h with h1 | h1
  · go_enter Try.func95, Try.ntmps95
    go_wp2
    go_ret
    exact ⟨rfl, rfl⟩
  · have h2 : 2 ≤ a := by omega
    have hd : decide (a ≤ 8) = false := by simp; omega
    go_enter Try.func95, Try.ntmps95
    go_wp2
    go_ret
    exact ⟨rfl, rfl⟩
theorem isWidth_yes (a : Int) (w : World) (h1 : 2 ≤ a) (h2 : a ≤ 8) :
    Calls Try.prog 23 #[.int .i64 a] w fun e w' => e = .returned (.bool true) ∧ w = w' := by
  go_enter Try.func23, Try.ntmps23
  go_wp2
  go_ret
  exact ⟨rfl, rfl⟩
theorem isWidth_no (a : Int) (w : World) (h : a < 2 ∨ 8 < a) :
    Calls Try.prog 23 #[.int .i64 a] w fun e w' => e = .returned (.bool false) ∧ w = w' := by
  rcases h with h1 | h1
  · go_enter Try.func23, Try.ntmps23
    go_wp2
    go_ret
    exact ⟨rfl, rfl⟩
  · have h2 : 2 ≤ a := by omega
    have hd : decide (a ≤ 8) = false := by simp; omega
    go_enter Try.func23, Try.ntmps23
    go_wp2
    go_ret
    exact ⟨rfl, rfl⟩

theorem wrap_out (a n : Int) (w : World) (h : a < 2 ∨ 8 < a) :
    Calls Try.prog 25 #[.int .i64 a, .int .i64 n] w fun e w' => e = .returned (.int .i64 (wrapW a n)) ∧ w = w' := by
  rw [wr_out n h]
  go_enter Try.func25, Try.ntmps25
  go_wp2_with (go_at_call 95; refine (valid_no _ _ h).mono ?_; rintro e w' ⟨rfl, rfl⟩)
  go_ret
  exact ⟨rfl, rfl⟩
theorem rwrap_out (a n : Int) (w : World) (h : a < 2 ∨ 8 < a) :
    Calls Try.prog 98 #[.int .i64 a, .int .i64 n] w fun e w' => e = .returned (.int .i64 (wrapW a n)) ∧ w = w' := by
  rw [wr_out n h]
  go_enter Try.func98, Try.ntmps98
  go_wp2_with (go_at_call 23; refine (isWidth_no _ _ h).mono ?_; rintro e w' ⟨rfl, rfl⟩)
  go_ret
  exact ⟨rfl, rfl⟩
theorem wrap_2 (n : Int) (w : World) :
    Calls Try.prog 25 #[.int .i64 2, .int .i64 n] w fun e w' => e = .returned (.int .i64 (wrapW 2 n)) ∧ w = w' := by
  obtain ⟨m, hb, h0, h1, hm⟩ : ∃ m, bits .and .i64 n 3 = m ∧ 0 ≤ m ∧ m < 4 ∧ Hid (m = n % 4) := ⟨n % 4, bits_mask n 2 (by omega), by omega, by omega, rfl⟩
  go_enter Try.func25, Try.ntmps25
  go_wp2_with (go_at_call 95; refine (valid_yes _ _ (by omega) (by omega)).mono ?_; rintro e w' ⟨rfl, rfl⟩)
  all_goals go_ret
  all_goals (refine ⟨ret_i ?_, rfl⟩; rw [wr_2]; have hm := hm.out; simp only [Int.bmod]; simp; omega)
theorem rwrap_2 (n : Int) (w : World) :
    Calls Try.prog 98 #[.int .i64 2, .int .i64 n] w fun e w' => e = .returned (.int .i64 (wrapW 2 n)) ∧ w = w' := by
  obtain ⟨m, hb, h0, h1, hm⟩ : ∃ m, n.tmod 4 = m ∧ -4 < m ∧ m < 4 ∧ Hid (m = n.tmod 4) := ⟨n.tmod 4, rfl, by have := Int.lt_tmod_of_pos n (show (0 : Int) < 4 by omega); omega, Int.tmod_lt_of_pos n (by omega), rfl⟩
  go_enter Try.func98, Try.ntmps98
  go_wp2_with (go_at_call 23; refine (isWidth_yes _ _ (by omega) (by omega)).mono ?_; rintro e w' ⟨rfl, rfl⟩)
  all_goals go_ret
  all_goals (refine ⟨ret_i ?_, rfl⟩; rw [wr_2]; have hm := hm.out; rw [Int.tmod_eq_emod] at hm; simp only [Int.bmod]; simp; split at hm <;> omega)
theorem wrap_3 (n : Int) (w : World) :
    Calls Try.prog 25 #[.int .i64 3, .int .i64 n] w fun e w' => e = .returned (.int .i64 (wrapW 3 n)) ∧ w = w' := by
  obtain ⟨m, hb, h0, h1, hm⟩ : ∃ m, bits .and .i64 n 7 = m ∧ 0 ≤ m ∧ m < 8 ∧ Hid (m = n % 8) := ⟨n % 8, bits_mask n 3 (by omega), by omega, by omega, rfl⟩
  go_enter Try.func25, Try.ntmps25
  go_wp2_with (go_at_call 95; refine (valid_yes _ _ (by omega) (by omega)).mono ?_; rintro e w' ⟨rfl, rfl⟩)
  all_goals go_ret
  all_goals (refine ⟨ret_i ?_, rfl⟩; rw [wr_3]; have hm := hm.out; simp only [Int.bmod]; simp; omega)
theorem rwrap_3 (n : Int) (w : World) :
    Calls Try.prog 98 #[.int .i64 3, .int .i64 n] w fun e w' => e = .returned (.int .i64 (wrapW 3 n)) ∧ w = w' := by
  obtain ⟨m, hb, h0, h1, hm⟩ : ∃ m, n.tmod 8 = m ∧ -8 < m ∧ m < 8 ∧ Hid (m = n.tmod 8) := ⟨n.tmod 8, rfl, by have := Int.lt_tmod_of_pos n (show (0 : Int) < 8 by omega); omega, Int.tmod_lt_of_pos n (by omega), rfl⟩
  go_enter Try.func98, Try.ntmps98
  go_wp2_with (go_at_call 23; refine (isWidth_yes _ _ (by omega) (by omega)).mono ?_; rintro e w' ⟨rfl, rfl⟩)
  all_goals go_ret
  all_goals (refine ⟨ret_i ?_, rfl⟩; rw [wr_3]; have hm := hm.out; rw [Int.tmod_eq_emod] at hm; simp only [Int.bmod]; simp; split at hm <;> omega)
theorem wrap_4 (n : Int) (w : World) :
    Calls Try.prog 25 #[.int .i64 4, .int .i64 n] w fun e w' => e = .returned (.int .i64 (wrapW 4 n)) ∧ w = w' := by
  obtain ⟨m, hb, h0, h1, hm⟩ : ∃ m, bits .and .i64 n 15 = m ∧ 0 ≤ m ∧ m < 16 ∧ Hid (m = n % 16) := ⟨n % 16, bits_mask n 4 (by omega), by omega, by omega, rfl⟩
  go_enter Try.func25, Try.ntmps25
  go_wp2_with (go_at_call 95; refine (valid_yes _ _ (by omega) (by omega)).mono ?_; rintro e w' ⟨rfl, rfl⟩)
  all_goals go_ret
  all_goals (refine ⟨ret_i ?_, rfl⟩; rw [wr_4]; have hm := hm.out; simp only [Int.bmod]; simp; omega)
theorem rwrap_4 (n : Int) (w : World) :
    Calls Try.prog 98 #[.int .i64 4, .int .i64 n] w fun e w' => e = .returned (.int .i64 (wrapW 4 n)) ∧ w = w' := by
  obtain ⟨m, hb, h0, h1, hm⟩ : ∃ m, n.tmod 16 = m ∧ -16 < m ∧ m < 16 ∧ Hid (m = n.tmod 16) := ⟨n.tmod 16, rfl, by have := Int.lt_tmod_of_pos n (show (0 : Int) < 16 by omega); omega, Int.tmod_lt_of_pos n (by omega), rfl⟩
  go_enter Try.func98, Try.ntmps98
  go_wp2_with (go_at_call 23; refine (isWidth_yes _ _ (by omega) (by omega)).mono ?_; rintro e w' ⟨rfl, rfl⟩)
  all_goals go_ret
  all_goals (refine ⟨ret_i ?_, rfl⟩; rw [wr_4]; have hm := hm.out; rw [Int.tmod_eq_emod] at hm; simp only [Int.bmod]; simp; split at hm <;> omega)
theorem wrap_5 (n : Int) (w : World) :
    Calls Try.prog 25 #[.int .i64 5, .int .i64 n] w fun e w' => e = .returned (.int .i64 (wrapW 5 n)) ∧ w = w' := by
  obtain ⟨m, hb, h0, h1, hm⟩ : ∃ m, bits .and .i64 n 31 = m ∧ 0 ≤ m ∧ m < 32 ∧ Hid (m = n % 32) := ⟨n % 32, bits_mask n 5 (by omega), by omega, by omega, rfl⟩
  go_enter Try.func25, Try.ntmps25
  go_wp2_with (go_at_call 95; refine (valid_yes _ _ (by omega) (by omega)).mono ?_; rintro e w' ⟨rfl, rfl⟩)
  all_goals go_ret
  all_goals (refine ⟨ret_i ?_, rfl⟩; rw [wr_5]; have hm := hm.out; simp only [Int.bmod]; simp; omega)
theorem rwrap_5 (n : Int) (w : World) :
    Calls Try.prog 98 #[.int .i64 5, .int .i64 n] w fun e w' => e = .returned (.int .i64 (wrapW 5 n)) ∧ w = w' := by
  obtain ⟨m, hb, h0, h1, hm⟩ : ∃ m, n.tmod 32 = m ∧ -32 < m ∧ m < 32 ∧ Hid (m = n.tmod 32) := ⟨n.tmod 32, rfl, by have := Int.lt_tmod_of_pos n (show (0 : Int) < 32 by omega); omega, Int.tmod_lt_of_pos n (by omega), rfl⟩
  go_enter Try.func98, Try.ntmps98
  go_wp2_with (go_at_call 23; refine (isWidth_yes _ _ (by omega) (by omega)).mono ?_; rintro e w' ⟨rfl, rfl⟩)
  all_goals go_ret
  all_goals (refine ⟨ret_i ?_, rfl⟩; rw [wr_5]; have hm := hm.out; rw [Int.tmod_eq_emod] at hm; simp only [Int.bmod]; simp; split at hm <;> omega)
theorem wrap_6 (n : Int) (w : World) :
    Calls Try.prog 25 #[.int .i64 6, .int .i64 n] w fun e w' => e = .returned (.int .i64 (wrapW 6 n)) ∧ w = w' := by
  obtain ⟨m, hb, h0, h1, hm⟩ : ∃ m, bits .and .i64 n 63 = m ∧ 0 ≤ m ∧ m < 64 ∧ Hid (m = n % 64) := ⟨n % 64, bits_mask n 6 (by omega), by omega, by omega, rfl⟩
  go_enter Try.func25, Try.ntmps25
  go_wp2_with (go_at_call 95; refine (valid_yes _ _ (by omega) (by omega)).mono ?_; rintro e w' ⟨rfl, rfl⟩)
  all_goals go_ret
  all_goals (refine ⟨ret_i ?_, rfl⟩; rw [wr_6]; have hm := hm.out; simp only [Int.bmod]; simp; omega)
theorem rwrap_6 (n : Int) (w : World) :
    Calls Try.prog 98 #[.int .i64 6, .int .i64 n] w fun e w' => e = .returned (.int .i64 (wrapW 6 n)) ∧ w = w' := by
  obtain ⟨m, hb, h0, h1, hm⟩ : ∃ m, n.tmod 64 = m ∧ -64 < m ∧ m < 64 ∧ Hid (m = n.tmod 64) := ⟨n.tmod 64, rfl, by have := Int.lt_tmod_of_pos n (show (0 : Int) < 64 by omega); omega, Int.tmod_lt_of_pos n (by omega), rfl⟩
  go_enter Try.func98, Try.ntmps98
  go_wp2_with (go_at_call 23; refine (isWidth_yes _ _ (by omega) (by omega)).mono ?_; rintro e w' ⟨rfl, rfl⟩)
  all_goals go_ret
  all_goals (refine ⟨ret_i ?_, rfl⟩; rw [wr_6]; have hm := hm.out; rw [Int.tmod_eq_emod] at hm; simp only [Int.bmod]; simp; split at hm <;> omega)
theorem wrap_7 (n : Int) (w : World) :
    Calls Try.prog 25 #[.int .i64 7, .int .i64 n] w fun e w' => e = .returned (.int .i64 (wrapW 7 n)) ∧ w = w' := by
  obtain ⟨m, hb, h0, h1, hm⟩ : ∃ m, bits .and .i64 n 127 = m ∧ 0 ≤ m ∧ m < 128 ∧ Hid (m = n % 128) := ⟨n % 128, bits_mask n 7 (by omega), by omega, by omega, rfl⟩
  go_enter Try.func25, Try.ntmps25
  go_wp2_with (go_at_call 95; refine (valid_yes _ _ (by omega) (by omega)).mono ?_; rintro e w' ⟨rfl, rfl⟩)
  all_goals go_ret
  all_goals (refine ⟨ret_i ?_, rfl⟩; rw [wr_7]; have hm := hm.out; simp only [Int.bmod]; simp; omega)
theorem rwrap_7 (n : Int) (w : World) :
    Calls Try.prog 98 #[.int .i64 7, .int .i64 n] w fun e w' => e = .returned (.int .i64 (wrapW 7 n)) ∧ w = w' := by
  obtain ⟨m, hb, h0, h1, hm⟩ : ∃ m, n.tmod 128 = m ∧ -128 < m ∧ m < 128 ∧ Hid (m = n.tmod 128) := ⟨n.tmod 128, rfl, by have := Int.lt_tmod_of_pos n (show (0 : Int) < 128 by omega); omega, Int.tmod_lt_of_pos n (by omega), rfl⟩
  go_enter Try.func98, Try.ntmps98
  go_wp2_with (go_at_call 23; refine (isWidth_yes _ _ (by omega) (by omega)).mono ?_; rintro e w' ⟨rfl, rfl⟩)
  all_goals go_ret
  all_goals (refine ⟨ret_i ?_, rfl⟩; rw [wr_7]; have hm := hm.out; rw [Int.tmod_eq_emod] at hm; simp only [Int.bmod]; simp; split at hm <;> omega)
theorem wrap_8 (n : Int) (w : World) :
    Calls Try.prog 25 #[.int .i64 8, .int .i64 n] w fun e w' => e = .returned (.int .i64 (wrapW 8 n)) ∧ w = w' := by
  obtain ⟨m, hb, h0, h1, hm⟩ : ∃ m, bits .and .i64 n 255 = m ∧ 0 ≤ m ∧ m < 256 ∧ Hid (m = n % 256) := ⟨n % 256, bits_mask n 8 (by omega), by omega, by omega, rfl⟩
  go_enter Try.func25, Try.ntmps25
  go_wp2_with (go_at_call 95; refine (valid_yes _ _ (by omega) (by omega)).mono ?_; rintro e w' ⟨rfl, rfl⟩)
  all_goals go_ret
  all_goals (refine ⟨ret_i ?_, rfl⟩; rw [wr_8]; have hm := hm.out; simp only [Int.bmod]; simp; omega)
theorem rwrap_8 (n : Int) (w : World) :
    Calls Try.prog 98 #[.int .i64 8, .int .i64 n] w fun e w' => e = .returned (.int .i64 (wrapW 8 n)) ∧ w = w' := by
  obtain ⟨m, hb, h0, h1, hm⟩ : ∃ m, n.tmod 256 = m ∧ -256 < m ∧ m < 256 ∧ Hid (m = n.tmod 256) := ⟨n.tmod 256, rfl, by have := Int.lt_tmod_of_pos n (show (0 : Int) < 256 by omega); omega, Int.tmod_lt_of_pos n (by omega), rfl⟩
  go_enter Try.func98, Try.ntmps98
  go_wp2_with (go_at_call 23; refine (isWidth_yes _ _ (by omega) (by omega)).mono ?_; rintro e w' ⟨rfl, rfl⟩)
  all_goals go_ret
  all_goals (refine ⟨ret_i ?_, rfl⟩; rw [wr_8]; have hm := hm.out; rw [Int.tmod_eq_emod] at hm; simp only [Int.bmod]; simp; split at hm <;> omega)

theorem wrap_any (a n : Int) (w : World) :
    Calls Try.prog 25 #[.int .i64 a, .int .i64 n] w fun e w' => e = .returned (.int .i64 (wrapW a n)) ∧ w = w' := by
  by_cases h : a < 2 ∨ 8 < a
  · exact wrap_out a n w h
  · rcases width_cases (w := a) (by omega) (by omega) with rfl | rfl | rfl | rfl | rfl | rfl | rfl
    · exact wrap_2 n w
    · exact wrap_3 n w
    · exact wrap_4 n w
    · exact wrap_5 n w
    · exact wrap_6 n w
    · exact wrap_7 n w
    · exact wrap_8 n w
theorem rwrap_any (a n : Int) (w : World) :
    Calls Try.prog 98 #[.int .i64 a, .int .i64 n] w fun e w' => e = .returned (.int .i64 (wrapW a n)) ∧ w = w' := by
  by_cases h : a < 2 ∨ 8 < a
  · exact rwrap_out a n w h
  · rcases width_cases (w := a) (by omega) (by omega) with rfl | rfl | rfl | rfl | rfl | rfl | rfl
    · exact rwrap_2 n w
    · exact rwrap_3 n w
    · exact rwrap_4 n w
    · exact rwrap_5 n w
    · exact rwrap_6 n w
    · exact rwrap_7 n w
    · exact rwrap_8 n w
end Go.Proofs.Ytgmcajojigedaaa
