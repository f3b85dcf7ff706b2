/- Walks of package blast's functions on numbers: size, fits, constant, Constant, Words, Bits, Value. -/
import Derived.Test.YtgmcajojigedaaaWr
import Derived.Test.YtgmcajojigedaaaInf
set_option linter.unusedSimpArgs false
set_option linter.unusedVariables false
namespace Go.Proofs.Ytgmcajojigedaaa
open Go.RowKit


def bitsI (n : Nat) (m : Int) : List Int := (List.range n).map fun k => (m / 2 ^ k) % 2
theorem bitsI_succ (n : Nat) (m : Int) : bitsI (n + 1) m = bitsI n m ++ [(m / 2 ^ n) % 2] := by simp [bitsI, List.range_succ]
theorem bitsI_length (n : Nat) (m : Int) : (bitsI n m).length = n := by simp [bitsI]

def RetOwnI (w : World) (xs : List Int) (e : Ending) (w' : World) : Prop := ∃ v, e = .returned v ∧ OwnI w' w.heap.size v xs ∧ Below w.heap.size w w'

set_option maxHeartbeats 400000 in
theorem constant_any (n : Nat) (m : Int) (w : World) (hn : n ≤ 60) :
    Calls Try.prog 94 #[.int .i64 n, .int .i64 m] w (RetOwnI w (bitsI n m)) := by
  go_enter Try.func94, Try.ntmps94
  go_wp2
  go_loopw [5, 8] (fun v i wr => ∃ k : Nat, k ≤ n ∧ i = .int .i64 k ∧ OwnI wr w.heap.size v (bitsI k m) ∧ Below w.heap.size w wr) (fun _ i _ => n - (intOf i).toNat)
  case atStart => exact ⟨0, Nat.zero_le _, rfl, OwnOf.nil _ _, Below.refl _ _⟩
  case round =>
    obtain ⟨k, hk, rfl, hown, hb⟩ := hrel
    by_cases hlt : k < n
    · have hb1 := bits_and_one
      have hlen : (bitsI k m).length ≤ 60 := by rw [bitsI_length]; omega
      go_wp2_with (at_builtin; go_must (refine app1 (Value.int .i64) oneInt 24 3 8 Try.underlying24 Try.info3 rfl rfl _ _ rfl _ _ _ _ hown rfl rfl ?_ ?_ ?_ ?_))
      · omega
      · omega
      · exact hb.size
      intro v' w1 hown1 hgr1
      rw [← bitsI_succ] at hown1
      have hb2 := hb.grown hgr1 hb.size (fun j hj => (hown.lt j hj).1)
      clear hown hb hgr1 hb1 hlen
      go_wp2
      go_roundw
      case rel => exact ⟨k + 1, by omega, by go_num, hown1, hb2⟩
      case measure => simp [intOf]; omega
    · obtain rfl : k = n := by omega
      go_wp2
      go_ret
      exact ⟨_, rfl, hown, hb⟩

def sizeF (w s : Int) : Int := if s = 0 then w else if s = 1 then 1 else 0
theorem size_any (a s : Int) (w : World) :
    Calls Try.prog 96 #[.int .i64 a, .int .i64 s] w fun e w' => e = .returned (.int .i64 (sizeF a s)) ∧ w = w' := by
  by_cases h0 : s = 0
  · subst h0
    go_enter Try.func96, Try.ntmps96
    go_wp2
    go_ret
    exact ⟨rfl, rfl⟩
  · have e0 : (s == 0) = false := by simp [h0]
    by_cases h1 : s = 1
    · subst h1
      go_enter Try.func96, Try.ntmps96
      go_wp2
      go_ret
      exact ⟨rfl, rfl⟩
    · have e1 : (s == 1) = false := by simp [h1]
      have e2 : sizeF a s = 0 := by simp [sizeF, h0, h1]
      rw [e2]
      clear e2 h0 h1
      go_enter Try.func96, Try.ntmps96
      go_wp2
      go_ret
      exact ⟨rfl, rfl⟩

def isSort (s : Int) : Prop := s = 0 ∨ s = 1
instance (s : Int) : Decidable (isSort s) := inferInstanceAs (Decidable (_ ∨ _))
theorem sizeF_zero {a s : Int} (h1 : 2 ≤ a) : sizeF a s = 0 ↔ ¬ isSort s := by
  unfold sizeF isSort; split
  · constructor <;> omega
  · split <;> simp <;> omega
def fitsP (a : Int) (xs : List Int) : Prop := 2 ≤ a ∧ a ≤ 8 ∧ xs.length ≤ 24 ∧ ∀ s ∈ xs, isSort s
instance (a : Int) (xs : List Int) : Decidable (fitsP a xs) := inferInstanceAs (Decidable (_ ∧ _ ∧ _ ∧ _))
def fitsB (a : Int) (xs : List Int) : Bool := decide (fitsP a xs)
theorem fitsB_yes {a : Int} {xs : List Int} (h : fitsP a xs) : fitsB a xs = true := decide_eq_true h
theorem fitsB_no {a : Int} {xs : List Int} (h : ¬ fitsP a xs) : fitsB a xs = false := decide_eq_false h

set_option maxHeartbeats 400000 in
theorem fits_in (a : Int) (xs : List Int) (A : Option Addr) (c B0 : Nat) (w : World) (h1 : 2 ≤ a) (h2 : a ≤ 8) (h3 : xs.length ≤ 24) (hs : SlI w B0 A c xs) :
    Calls Try.prog 93 #[.int .i64 a, .slice A xs.length c] w fun e w' => e = .returned (.bool (fitsB a xs)) ∧ w = w' := by
  have hd1 : decide ((8 : Int) < a) = false := decide_eq_false (by omega)
  have hd2 : decide ((24 : Int) < (xs.length : Int)) = false := decide_eq_false (by omega)
  go_enter Try.func93, Try.ntmps93
  go_wp2
  go_loop [6, 20] (fun _ i => ∃ k : Nat, k ≤ xs.length ∧ i = .int .i64 k ∧ ∀ j x, j < k → xs[j]? = some x → isSort x) (fun _ i => xs.length - (intOf i).toNat)
  case atStart => exact ⟨0, Nat.zero_le _, rfl, fun j x h => by omega⟩
  case round =>
    obtain ⟨k, hk, rfl, hall⟩ := hrel
    by_cases hlt : k < xs.length
    · obtain ⟨b, o, x, rfl, hx, hc⟩ := hs.at_ hlt
      clear hs
      by_cases hz : isSort x
      · have e1 : (sizeF a x == 0) = false := by rw [beq_eq_false_iff_ne]; exact fun h => (sizeF_zero h1).1 h hz
        go_wp2_with (go_at_call 96; refine (size_any _ _ _).mono ?_; rintro e w' ⟨rfl, rfl⟩)
        go_round
        case rel => exact ⟨k + 1, by omega, by go_num, fun j y hj hy => by
          rcases Nat.lt_succ_iff_lt_or_eq.1 hj with h | rfl
          · exact hall j y h hy
          · rw [hx] at hy; cases hy; exact hz⟩
        case measure => simp [intOf]; omega
      · have e1 : (sizeF a x == 0) = true := by rw [beq_iff_eq]; exact (sizeF_zero h1).2 hz
        have e2 : fitsB a xs = false := fitsB_no fun h => hz (h.2.2.2 x (List.mem_of_getElem? hx))
        go_wp2_with (go_at_call 96; refine (size_any _ _ _).mono ?_; rintro e w' ⟨rfl, rfl⟩)
        go_ret
        exact ⟨by rw [e2]; rfl, rfl⟩
    · have e2 : fitsB a xs = true := fitsB_yes ⟨h1, h2, h3, fun x hx => by
        obtain ⟨j, hj⟩ := List.getElem?_of_mem hx
        exact hall j x (by have := (List.getElem?_eq_some_iff.1 hj).1; omega) hj⟩
      go_wp2
      go_ret
      exact ⟨rfl, rfl⟩

theorem fits_out (a : Int) (xs : List Int) (A : Option Addr) (c : Nat) (w : World) (h : a < 2 ∨ 8 < a ∨ 24 < xs.length) (hb : xs.length ≤ 9223372036854775807) :
    Calls Try.prog 93 #[.int .i64 a, .slice A xs.length c] w fun e w' => e = .returned (.bool (fitsB a xs)) ∧ w = w' := by
  have e2 : fitsB a xs = false := fitsB_no fun h' => by have := h'.1; have := h'.2.1; have := h'.2.2.1; omega
  rw [e2]
  clear e2
  by_cases h1 : a < 2
  · clear h
    go_enter Try.func93, Try.ntmps93
    go_wp2
    go_ret
    exact ⟨rfl, rfl⟩
  by_cases h2 : 8 < a
  · clear h
    go_enter Try.func93, Try.ntmps93
    go_wp2
    go_ret
    exact ⟨rfl, rfl⟩
  · have h3 : 24 < (xs.length : Int) := by omega
    clear h
    have hd1 : decide ((8 : Int) < a) = false := decide_eq_false (by omega)
    go_enter Try.func93, Try.ntmps93
    go_wp2
    go_ret
    exact ⟨rfl, rfl⟩
theorem fits_any (a : Int) (xs : List Int) (A : Option Addr) (c B0 : Nat) (w : World) (hs : SlI w B0 A c xs) :
    Calls Try.prog 93 #[.int .i64 a, .slice A xs.length c] w fun e w' => e = .returned (.bool (fitsB a xs)) ∧ w = w' := by
  by_cases h : 2 ≤ a ∧ a ≤ 8 ∧ xs.length ≤ 24
  · exact fits_in a xs A c B0 w h.1 h.2.1 h.2.2 hs
  · exact fits_out a xs A c w (by omega) hs.big

/-- 'Constant': nothing where there is no width. -/
def constF (a m : Int) : List Int := if 2 ≤ a ∧ a ≤ 8 then bitsI a.toNat m else []
theorem Constant_any (a m : Int) (w : World) : Calls Try.prog 24 #[.int .i64 a, .int .i64 m] w (RetOwnI w (constF a m)) := by
  by_cases h : 2 ≤ a ∧ a ≤ 8
  · have e1 : fitsB a [] = true := fitsB_yes ⟨h.1, h.2, by simp, by simp⟩
    have e2 : constF a m = bitsI a.toNat m := if_pos h
    obtain ⟨n, rfl⟩ := Int.eq_ofNat_of_zero_le (show 0 ≤ a by omega)
    simp only [Int.toNat_natCast] at e2
    have E2 := Lib.hid e2
    have hn : n ≤ 8 := by omega
    clear e2 h
    go_enter Try.func24, Try.ntmps24
    go_wp2_with (first
      | (go_at_call 93; refine (fits_any _ [] none 0 0 _ (SlOf.nil _ _)).mono ?_; rintro e w' ⟨rfl, rfl⟩)
      | (go_at_call 94; refine (constant_any _ _ _ (by omega)).mono ?_; rintro e w' ⟨v, rfl, ho, hb⟩))
    go_ret
    exact ⟨_, rfl, by rw [E2.out]; exact ho, hb⟩
  · have e1 : fitsB a [] = false := fitsB_no fun h' => h ⟨h'.1, h'.2.1⟩
    have e2 : constF a m = [] := if_neg h
    have E2 := Lib.hid e2
    clear e2 h
    go_enter Try.func24, Try.ntmps24
    go_wp2_with (go_at_call 93; refine (fits_any _ [] none 0 0 _ (SlOf.nil _ _)).mono ?_; rintro e w' ⟨rfl, rfl⟩)
    go_ret
    exact ⟨_, rfl, by rw [E2.out]; exact OwnOf.nil _ _, Below.refl _ _⟩
end Go.Proofs.Ytgmcajojigedaaa
