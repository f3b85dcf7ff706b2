/- The walk of blast.Value. -/
import Derived.Test.YtgmcajojigedaaaBl
set_option linter.unusedSimpArgs false
set_option linter.unusedVariables false
namespace Go.Proofs.Ytgmcajojigedaaa
open Go.RowKit

def b01 (b : Bool) : Int := if b then 1 else 0
def valU : List Bool → Int
  | [] => 0
  | b :: r => b01 b + 2 * valU r
theorem valU_snoc (b : Bool) : ∀ l : List Bool, valU (l ++ [b]) = valU l + 2 ^ l.length * b01 b
  | [] => by simp [valU]
  | x :: r => by
    rw [List.cons_append, valU, valU, valU_snoc b r, List.length_cons, Int.pow_succ, Int.mul_add, ← Int.mul_assoc, Int.mul_comm 2 (2 ^ r.length), Int.add_assoc]
theorem b01_cases (b : Bool) : b01 b = 0 ∨ b01 b = 1 := by cases b <;> simp [b01]
theorem valU_nonneg : ∀ l : List Bool, 0 ≤ valU l
  | [] => by simp [valU]
  | x :: r => by have := valU_nonneg r; have := b01_cases x; simp only [valU]; omega
theorem valU_lt : ∀ l : List Bool, valU l < 2 ^ l.length
  | [] => by simp [valU]
  | x :: r => by have := valU_lt r; have := b01_cases x; simp only [valU, List.length_cons, Int.pow_succ]; omega
def valueF (s : Int) (bs : List Bool) : Int :=
  if s = 1 ∧ bs.length = 1 then valU bs
  else if s = 0 ∧ 1 ≤ bs.length ∧ bs.length ≤ 8 then valU bs - (if bs.getLast? = some true then 2 ^ bs.length else 0)
  else 0

theorem value_out (s : Int) (bs : List Bool) (A : Option Addr) (c B0 : Nat) (w : World) (h : ¬ (s = 1 ∧ bs.length = 1) ∧ ¬ (s = 0 ∧ 1 ≤ bs.length ∧ bs.length ≤ 8)) (hs : SlB w B0 A c bs) :
    Calls Try.prog 27 #[.int .i64 s, .slice A bs.length c] w fun e w' => e = .returned (.int .i64 (valueF s bs)) ∧ w = w' := by
  have hbig := hs.big
  have hv : valueF s bs = 0 := by unfold valueF; rw [if_neg h.1, if_neg h.2]
  rw [hv]
  clear hv
  obtain ⟨n, hn⟩ : ∃ n, n = bs.length := ⟨_, rfl⟩
  rw [← hn] at h hbig ⊢
  clear hn hs
  by_cases h1 : s = 1
  · subst h1
    have hne : ((n : Int) != 1) = true := by rw [bne_iff_ne]; omega
    clear h
    go_enter Try.func27, Try.ntmps27
    go_wp2
    go_ret
    exact ⟨rfl, rfl⟩
  · have e1 : (s == 1) = false := by simp [h1]
    by_cases h0 : s = 0
    · subst h0
      by_cases hlt : n < 1
      · have hlt' : (n : Int) < 1 := by omega
        clear h h1
        go_enter Try.func27, Try.ntmps27
        go_wp2
        go_ret
        exact ⟨rfl, rfl⟩
      · have hlt' : decide ((n : Int) < 1) = false := decide_eq_false (by omega)
        have hgt : 8 < (n : Int) := by omega
        clear h h1 hlt
        go_enter Try.func27, Try.ntmps27
        go_wp2
        go_ret
        exact ⟨rfl, rfl⟩
    · have e0 : (s == 0) = false := by simp [h0]
      have e2 : sizeF 1 s = 0 := by simp [sizeF, h0, h1]
      clear h h0 h1
      go_enter Try.func27, Try.ntmps27
      go_wp2_with (go_at_call 96; refine (size_any _ _ _).mono ?_; rintro e w' ⟨rfl, rfl⟩; rw [e2])
      go_ret
      exact ⟨rfl, rfl⟩



set_option maxHeartbeats 1000000 in
theorem value_int (bs : List Bool) (A : Option Addr) (c B0 : Nat) (w : World) (h1 : 1 ≤ bs.length) (h8 : bs.length ≤ 8) (hs : SlB w B0 A c bs) :
    Calls Try.prog 27 #[.int .i64 0, .slice A bs.length c] w fun e w' => e = .returned (.int .i64 (valueF 0 bs)) ∧ w = w' := by
  have hd1 : decide ((bs.length : Int) < 1) = false := decide_eq_false (by omega)
  have hd2 : decide (8 < (bs.length : Int)) = false := decide_eq_false (by omega)
  have e2 : sizeF 1 0 = 1 := rfl
  go_enter Try.func27, Try.ntmps27
  go_wp2_with (go_at_call 96; refine (size_any _ _ _).mono ?_; rintro e w' ⟨rfl, rfl⟩; rw [e2])
  go_loop [6, 7, 8, 36] (fun v _ _ i => ∃ k : Nat, k ≤ bs.length ∧ i = .int .i64 k ∧ v = .int .i64 (valU (bs.take k))) (fun _ _ _ i => bs.length - (intOf i).toNat)
  case atStart => exact ⟨0, Nat.zero_le _, rfl, rfl⟩
  case round =>
    obtain ⟨k, hk, rfl, rfl⟩ := hrel
    by_cases hlt : k < bs.length
    · obtain ⟨b, o, x, rfl, hx, hc⟩ := hs.at_ hlt
      have hl : (bs.take k).length = k := by rw [List.length_take]; omega
      have h0 := valU_nonneg (bs.take k)
      have hb := valU_lt (bs.take k)
      rw [hl] at hb
      have hsn : valU (bs.take (k + 1)) = valU (bs.take k) + 2 ^ k * b01 x := by
        have : bs.take (k + 1) = bs.take k ++ [x] := by rw [List.take_add_one, hx]; rfl
        rw [this, valU_snoc, hl]
      have HN := Lib.hid hsn
      have HB := Lib.hid hb
      clear hs hx hsn hl hb
      cases x
      · go_wp2
        go_round
        case rel => exact ⟨k + 1, by omega, by go_num, by rw [HN.out]; simp [b01]⟩
        case measure => simp [intOf]; omega
      · go_wp2
        go_round
        case rel => exact ⟨k + 1, by omega, by go_num, by rw [HN.out, or_pow _ _ (by omega) h0 HB.out]; simp [b01]⟩
        case measure => simp [intOf]; omega
    · obtain rfl : k = bs.length := by omega
      obtain ⟨b, o, x, rfl, hx, hc⟩ := hs.at_ (k := bs.length - 1) (by omega)
      have hv : valueF 0 bs = valU bs - (if x = true then 2 ^ bs.length else 0) := by
        unfold valueF
        rw [if_neg (by omega), if_pos ⟨rfl, h1, h8⟩, List.getLast?_eq_getElem?, hx]
        simp
      rw [List.take_length]
      have HV := Lib.hid hv
      have hp1 : (2 : Int) ^ bs.length ≤ 256 := by
        have : (2 : Nat) ^ bs.length ≤ 2 ^ 8 := Nat.pow_le_pow_right (by omega) h8
        have hpi : ((2 ^ bs.length : Nat) : Int) = 2 ^ bs.length := by simp
        omega
      have hp0 : (0 : Int) < 2 ^ bs.length := Int.pow_pos (by omega)
      have h0 := valU_nonneg bs
      have hb := valU_lt bs
      clear hs hx hv
      cases x
      all_goals
        go_wp2
        go_ret
        refine ⟨?_, rfl⟩
        rw [HV.out]
      · simp
      · simp

set_option maxHeartbeats 1000000 in
theorem value_bool (bs : List Bool) (A : Option Addr) (c B0 : Nat) (w : World) (h1 : bs.length = 1) (hs : SlB w B0 A c bs) :
    Calls Try.prog 27 #[.int .i64 1, .slice A bs.length c] w fun e w' => e = .returned (.int .i64 (valueF 1 bs)) ∧ w = w' := by
  have hne : ((bs.length : Int) != 1) = false := by rw [h1]; rfl
  have e2 : sizeF 1 1 = 1 := rfl
  have H1 := Lib.hid h1
  have hbig : bs.length ≤ 1 := by omega
  clear h1
  go_enter Try.func27, Try.ntmps27
  go_wp2_with (go_at_call 96; refine (size_any _ _ _).mono ?_; rintro e w' ⟨rfl, rfl⟩; rw [e2])
  go_loop [6, 7, 8, 36] (fun v _ _ i => ∃ k : Nat, k ≤ bs.length ∧ i = .int .i64 k ∧ v = .int .i64 (valU (bs.take k))) (fun _ _ _ i => bs.length - (intOf i).toNat)
  case atStart => exact ⟨0, Nat.zero_le _, rfl, rfl⟩
  case round =>
    obtain ⟨k, hk, rfl, rfl⟩ := hrel
    by_cases hlt : k < bs.length
    · obtain ⟨b, o, x, rfl, hx, hc⟩ := hs.at_ hlt
      have hl : (bs.take k).length = k := by rw [List.length_take]; omega
      have h0 := valU_nonneg (bs.take k)
      have hb := valU_lt (bs.take k)
      rw [hl] at hb
      have hsn : valU (bs.take (k + 1)) = valU (bs.take k) + 2 ^ k * b01 x := by
        have : bs.take (k + 1) = bs.take k ++ [x] := by rw [List.take_add_one, hx]; rfl
        rw [this, valU_snoc, hl]
      have HN := Lib.hid hsn
      have HB := Lib.hid hb
      clear hs hx hsn hl hb
      cases x
      · go_wp2
        go_round
        case rel => exact ⟨k + 1, by omega, by go_num, by rw [HN.out]; simp [b01]⟩
        case measure => simp [intOf]; omega
      · go_wp2
        go_round
        case rel => exact ⟨k + 1, by omega, by go_num, by rw [HN.out, or_pow _ _ (by omega) h0 HB.out]; simp [b01]⟩
        case measure => simp [intOf]; omega
    · obtain rfl : k = bs.length := by omega
      have hv : valueF 1 bs = valU bs := if_pos ⟨rfl, H1.out⟩
      rw [List.take_length]
      have HV := Lib.hid hv
      clear hv
      go_wp2
      go_ret
      exact ⟨by rw [HV.out]; rfl, rfl⟩

theorem value_any (s : Int) (bs : List Bool) (A : Option Addr) (c B0 : Nat) (w : World) (hs : SlB w B0 A c bs) :
    Calls Try.prog 27 #[.int .i64 s, .slice A bs.length c] w fun e w' => e = .returned (.int .i64 (valueF s bs)) ∧ w = w' := by
  by_cases h1 : s = 1 ∧ bs.length = 1
  · obtain ⟨rfl, h⟩ := h1
    exact value_bool bs A c B0 w h hs
  by_cases h2 : s = 0 ∧ 1 ≤ bs.length ∧ bs.length ≤ 8
  · obtain ⟨rfl, h3, h4⟩ := h2
    exact value_int bs A c B0 w h3 h4 hs
  · exact value_out s bs A c B0 w ⟨h1, h2⟩ hs
end Go.Proofs.Ytgmcajojigedaaa
