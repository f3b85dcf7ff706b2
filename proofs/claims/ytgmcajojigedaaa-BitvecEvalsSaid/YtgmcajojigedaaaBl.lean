/- Walks of package blast's functions on numbers: size, fits, constant, Constant, Words, Bits, Value. Walks of blast.Words, blast.Bits and blast.Value. The walk of blast.Value. -/
import Derived.Test.YtgmcajojigedaaaBase
set_option linter.unusedSimpArgs false
set_option linter.unusedVariables false
namespace Go.Proofs.Ytgmcajojigedaaa
open Go.RowKit


def bitsI (n : Nat) (m : Int) : List Int := (List.range n).map fun k => (m / 2 ^ k) % 2
theorem bitsI_succ (n : Nat) (m : Int) : bitsI (n + 1) m = bitsI n m ++ [(m / 2 ^ n) % 2] := by simp [bitsI, List.range_succ]
theorem bitsI_length (n : Nat) (m : Int) : (bitsI n m).length = n := by simp [bitsI]

def RetOwnI (w : World) (xs : List Int) (e : Ending) (w' : World) : Prop := ∃ v, e = .returned v ∧ OwnI w' w.heap.size v xs ∧ Below w.heap.size w w'

set_option maxHeartbeats 400000 in
theorem constant_any (n : Nat) (m : Int) (w : World) (hn : n ≤ 60) :
    Calls Try.prog 94 #[.int .i64 n, .int .i64 m] w (RetOwnI w (bitsI n m)) := by
  go_enter Try.func94, Try.ntmps94
  go_wp2
  go_loopw [5, 8] (fun v i wr => ∃ k : Nat, k ≤ n ∧ i = .int .i64 k ∧ OwnI wr w.heap.size v (bitsI k m) ∧ Below w.heap.size w wr) (fun _ i _ => n - (intOf i).toNat)
  case atStart => exact ⟨0, Nat.zero_le _, rfl, OwnOf.nil _ _, Below.refl _ _⟩
  case round =>
    obtain ⟨k, hk, rfl, hown, hb⟩ := hrel
    by_cases hlt : k < n
    · have hb1 := bits_and_one
      have hlen : (bitsI k m).length ≤ 60 := by rw [bitsI_length]; omega
      go_wp2_with (at_builtin; go_must (refine app1 (Value.int .i64) oneInt 24 3 8 Try.underlying24 Try.info3 rfl rfl _ _ rfl _ _ _ _ hown rfl rfl ?_ ?_ ?_ ?_))
      · omega
      · omega
      · exact hb.size
      intro v' w1 hown1 hgr1
      rw [← bitsI_succ] at hown1
      have hb2 := hb.grown hgr1 hb.size (fun j hj => (hown.lt j hj).1)
      clear hown hb hgr1 hb1 hlen
      go_wp2
      go_roundw
      case rel => exact ⟨k + 1, by omega, by go_num, hown1, hb2⟩
      case measure => simp [intOf]; omega
    · obtain rfl : k = n := by omega
      go_wp2
      go_ret
      exact ⟨_, rfl, hown, hb⟩

def sizeF (w s : Int) : Int := if s = 0 then w else if s = 1 then 1 else 0
theorem size_any (a s : Int) (w : World) :
    Calls Try.prog 96 #[.int .i64 a, .int .i64 s] w fun e w' => e = .returned (.int .i64 (sizeF a s)) ∧ w = w' := by
  by_cases h0 : s = 0
  · subst h0
    go_enter Try.func96, Try.ntmps96
    go_wp2
    go_ret
    exact ⟨rfl, rfl⟩
  · have e0 : (s == 0) = false := by simp [h0]
    by_cases h1 : s = 1
    · subst h1
      go_enter Try.func96, Try.ntmps96
      go_wp2
      go_ret
      exact ⟨rfl, rfl⟩
    · have e1 : (s == 1) = false := by simp [h1]
      have e2 : sizeF a s = 0 := by simp [sizeF, h0, h1]
      rw [e2]
      clear e2 h0 h1
      go_enter Try.func96, Try.ntmps96
      go_wp2
      go_ret
      exact ⟨rfl, rfl⟩

def isSort (s : Int) : Prop := s = 0 ∨ s = 1
instance (s : Int) : Decidable (isSort s) := inferInstanceAs (Decidable (_ ∨ _))
theorem sizeF_zero {a s : Int} (h1 : 2 ≤ a) : sizeF a s = 0 ↔ ¬ isSort s := by
  unfold sizeF isSort; split
  · constructor <;> omega
  · split <;> simp <;> omega
def fitsP (a : Int) (xs : List Int) : Prop := 2 ≤ a ∧ a ≤ 8 ∧ xs.length ≤ 24 ∧ ∀ s ∈ xs, isSort s
instance (a : Int) (xs : List Int) : Decidable (fitsP a xs) := inferInstanceAs (Decidable (_ ∧ _ ∧ _ ∧ _))
def fitsB (a : Int) (xs : List Int) : Bool := decide (fitsP a xs)
theorem fitsB_yes {a : Int} {xs : List Int} (h : fitsP a xs) : fitsB a xs = true := decide_eq_true h
theorem fitsB_no {a : Int} {xs : List Int} (h : ¬ fitsP a xs) : fitsB a xs = false := decide_eq_false h

set_option maxHeartbeats 400000 in
theorem fits_in (a : Int) (xs : List Int) (A : Option Addr) (c B0 : Nat) (w : World) (h1 : 2 ≤ a) (h2 : a ≤ 8) (h3 : xs.length ≤ 24) (hs : SlI w B0 A c xs) :
    Calls Try.prog 93 #[.int .i64 a, .slice A xs.length c] w fun e w' => e = .returned (.bool (fitsB a xs)) ∧ w = w' := by
  have hd1 : decide ((8 : Int) < a) = false := decide_eq_false (by omega)
  have hd2 : decide ((24 : Int) < (xs.length : Int)) = false := decide_eq_false (by omega)
  go_enter Try.func93, Try.ntmps93
  go_wp2
  go_loop [6, 20] (fun _ i => ∃ k : Nat, k ≤ xs.length ∧ i = .int .i64 k ∧ ∀ j x, j < k → xs[j]? = some x → isSort x) (fun _ i => xs.length - (intOf i).toNat)
  case atStart => exact ⟨0, Nat.zero_le _, rfl, fun j x h => by omega⟩
  case round =>
    obtain ⟨k, hk, rfl, hall⟩ := hrel
    by_cases hlt : k < xs.length
    · obtain ⟨b, o, x, rfl, hx, hc⟩ := hs.at_ hlt
      clear hs
      by_cases hz : isSort x
      · have e1 : (sizeF a x == 0) = false := by rw [beq_eq_false_iff_ne]; exact fun h => (sizeF_zero h1).1 h hz
        go_wp2_with (go_at_call 96; refine (size_any _ _ _).mono ?_; rintro e w' ⟨rfl, rfl⟩)
        go_round
        case rel => exact ⟨k + 1, by omega, by go_num, fun j y hj hy => by
          rcases Nat.lt_succ_iff_lt_or_eq.1 hj with h | rfl
          · exact hall j y h hy
          · rw [hx] at hy; cases hy; exact hz⟩
        case measure => simp [intOf]; omega
      · have e1 : (sizeF a x == 0) = true := by rw [beq_iff_eq]; exact (sizeF_zero h1).2 hz
        have e2 : fitsB a xs = false := fitsB_no fun h => hz (h.2.2.2 x (List.mem_of_getElem? hx))
        go_wp2_with (go_at_call 96; refine (size_any _ _ _).mono ?_; rintro e w' ⟨rfl, rfl⟩)
        go_ret
        exact ⟨by rw [e2]; rfl, rfl⟩
    · have e2 : fitsB a xs = true := fitsB_yes ⟨h1, h2, h3, fun x hx => by
        obtain ⟨j, hj⟩ := List.getElem?_of_mem hx
        exact hall j x (by have := (List.getElem?_eq_some_iff.1 hj).1; omega) hj⟩
      go_wp2
      go_ret
      exact ⟨rfl, rfl⟩

theorem fits_out (a : Int) (xs : List Int) (A : Option Addr) (c : Nat) (w : World) (h : a < 2 ∨ 8 < a ∨ 24 < xs.length) (hb : xs.length ≤ 9223372036854775807) :
    Calls Try.prog 93 #[.int .i64 a, .slice A xs.length c] w fun e w' => e = .returned (.bool (fitsB a xs)) ∧ w = w' := by
  have e2 : fitsB a xs = false := fitsB_no fun h' => by have := h'.1; have := h'.2.1; have := h'.2.2.1; omega
  rw [e2]
  clear e2
  by_cases h1 : a < 2
  · clear h
    go_enter Try.func93, Try.ntmps93
    go_wp2
    go_ret
    exact ⟨rfl, rfl⟩
  by_cases h2 : 8 < a
  · clear h
    go_enter Try.func93, Try.ntmps93
    go_wp2
    go_ret
    exact ⟨rfl, rfl⟩
  · have h3 : 24 < (xs.length : Int) := by omega
    clear h
    have hd1 : decide ((8 : Int) < a) = false := decide_eq_false (by omega)
    go_enter Try.func93, Try.ntmps93
    go_wp2
    go_ret
    exact ⟨rfl, rfl⟩
theorem fits_any (a : Int) (xs : List Int) (A : Option Addr) (c B0 : Nat) (w : World) (hs : SlI w B0 A c xs) :
    Calls Try.prog 93 #[.int .i64 a, .slice A xs.length c] w fun e w' => e = .returned (.bool (fitsB a xs)) ∧ w = w' := by
  by_cases h : 2 ≤ a ∧ a ≤ 8 ∧ xs.length ≤ 24
  · exact fits_in a xs A c B0 w h.1 h.2.1 h.2.2 hs
  · exact fits_out a xs A c w (by omega) hs.big

/-- 'Constant': nothing where there is no width. -/
def constF (a m : Int) : List Int := if 2 ≤ a ∧ a ≤ 8 then bitsI a.toNat m else []
theorem Constant_any (a m : Int) (w : World) : Calls Try.prog 24 #[.int .i64 a, .int .i64 m] w (RetOwnI w (constF a m)) := by
  by_cases h : 2 ≤ a ∧ a ≤ 8
  · have e1 : fitsB a [] = true := fitsB_yes ⟨h.1, h.2, by simp, by simp⟩
    have e2 : constF a m = bitsI a.toNat m := if_pos h
    obtain ⟨n, rfl⟩ := Int.eq_ofNat_of_zero_le (show 0 ≤ a by omega)
    simp only [Int.toNat_natCast] at e2
    have E2 := Lib.hid e2
    have hn : n ≤ 8 := by omega
    clear e2 h
    go_enter Try.func24, Try.ntmps24
    go_wp2_with (first
      | (go_at_call 93; refine (fits_any _ [] none 0 0 _ (SlOf.nil _ _)).mono ?_; rintro e w' ⟨rfl, rfl⟩)
      | (go_at_call 94; refine (constant_any _ _ _ (by omega)).mono ?_; rintro e w' ⟨v, rfl, ho, hb⟩))
    go_ret
    exact ⟨_, rfl, by rw [E2.out]; exact ho, hb⟩
  · have e1 : fitsB a [] = false := fitsB_no fun h' => h ⟨h'.1, h'.2.1⟩
    have e2 : constF a m = [] := if_neg h
    have E2 := Lib.hid e2
    clear e2 h
    go_enter Try.func24, Try.ntmps24
    go_wp2_with (go_at_call 93; refine (fits_any _ [] none 0 0 _ (SlOf.nil _ _)).mono ?_; rintro e w' ⟨rfl, rfl⟩)
    go_ret
    exact ⟨_, rfl, by rw [E2.out]; exact OwnOf.nil _ _, Below.refl _ _⟩
end Go.Proofs.Ytgmcajojigedaaa
namespace Go.Proofs.Ytgmcajojigedaaa
open Go.RowKit


/-- The number of bits of a sort; where the bits of input k begin; the word of input k. -/
def szN (a s : Int) : Nat := (sizeF a s).toNat
def posN (a : Int) (xs : List Int) (k : Nat) : Nat := ((xs.take k).map (szN a)).sum
def wordN (p n : Nat) : List Int := (List.range n).map fun j => 2 * ((p + j + 1 : Nat) : Int)
def wordsF (a : Int) (xs : List Int) (k : Nat) : List (List Int) := (List.range k).map fun i => wordN (posN a xs i) (szN a (xs.getD i 0))

theorem wordN_succ (p n : Nat) : wordN p (n + 1) = wordN p n ++ [2 * ((p + n + 1 : Nat) : Int)] := by simp [wordN, List.range_succ]
theorem wordN_length (p n : Nat) : (wordN p n).length = n := by simp [wordN]
theorem wordsF_succ (a : Int) (xs : List Int) (k : Nat) {x : Int} (h : xs[k]? = some x) : wordsF a xs (k + 1) = wordsF a xs k ++ [wordN (posN a xs k) (szN a x)] := by
  have : xs.getD k 0 = x := by simp [List.getD, h]
  simp [wordsF, List.range_succ, h]
theorem wordsF_length (a : Int) (xs : List Int) (k : Nat) : (wordsF a xs k).length = k := by simp [wordsF]
theorem posN_succ (a : Int) (xs : List Int) (k : Nat) {x : Int} (h : xs[k]? = some x) : posN a xs (k + 1) = posN a xs k + szN a x := by
  obtain ⟨hk, he⟩ := List.getElem?_eq_some_iff.1 h
  subst he
  unfold posN
  rw [List.take_succ_eq_append_getElem hk, List.map_append, List.sum_append]
  simp
theorem sizeF_le {a s : Int} (h1 : 2 ≤ a) (h2 : a ≤ 8) : 0 ≤ sizeF a s ∧ sizeF a s ≤ 8 := by unfold sizeF; split <;> (try split) <;> omega
theorem szN_le {a s : Int} (h1 : 2 ≤ a) (h2 : a ≤ 8) : szN a s ≤ 8 := by have := sizeF_le (s := s) h1 h2; unfold szN; omega
theorem szN_cast {a s : Int} (h1 : 2 ≤ a) (h2 : a ≤ 8) : sizeF a s = (szN a s : Nat) := by have := sizeF_le (s := s) h1 h2; unfold szN; omega
theorem posN_le {a : Int} (h1 : 2 ≤ a) (h2 : a ≤ 8) (xs : List Int) : ∀ k, k ≤ xs.length → posN a xs k ≤ 8 * k := by
  intro k
  induction k with
  | zero => intro _; simp [posN]
  | succ k ih =>
    intro hk
    have hx : xs[k]? = some xs[k] := List.getElem?_eq_getElem (by omega)
    rw [posN_succ a xs k hx]
    have := ih (by omega)
    have := szN_le (s := xs[k]) h1 h2
    omega

/-- What Words hands back where the sorts fit. -/
def WordsRet (w : World) (B0 : Nat) (ws : List (List Int)) (n : Nat) (e : Ending) (w' : World) : Prop :=
  ∃ A c, e = .returned (.tuple #[.slice A ws.length c, .int .i64 n, .int .i64 0]) ∧ SlW w' B0 A c ws ∧ Below w.heap.size w w'

set_option maxHeartbeats 1000000 in
theorem words_yes (a : Int) (xs : List Int) (A : Option Addr) (c B0 : Nat) (w : World) (hB : B0 ≤ w.heap.size) (hf : fitsP a xs) (hs : SlI w B0 A c xs) :
    Calls Try.prog 29 #[.int .i64 a, .slice A xs.length c] w (WordsRet w B0 (wordsF a xs xs.length) (posN a xs xs.length)) := by
  have e1 : fitsB a xs = true := fitsB_yes hf
  have h1 := hf.1
  have h2 := hf.2.1
  have h3 := hf.2.2.1
  have hpos := posN_le h1 h2 xs
  clear hf
  have HP := Lib.hid hpos
  clear hpos
  go_enter Try.func29, Try.ntmps29
  go_wp2_with (go_at_call 93; refine (fits_any _ _ _ _ _ _ hs).mono ?_; rintro e w' ⟨rfl, rfl⟩)
  go_loopw [7, 8, 10, 11, 18] (fun v n _ _ i wr => ∃ k : Nat, k ≤ xs.length ∧ i = .int .i64 k ∧ n = .int .i64 (posN a xs k) ∧ OwnW wr B0 w.heap.size v (wordsF a xs k) ∧ Below w.heap.size w wr) (fun _ _ _ _ i _ => xs.length - (intOf i).toNat)
  case atStart => exact ⟨0, Nat.zero_le _, rfl, rfl, OwnW.nil _ _ _, Below.refl _ _⟩
  case round =>
    obtain ⟨k, hk, rfl, rfl, hown, hb⟩ := hrel
    by_cases hlt : k < xs.length
    · obtain ⟨b, o, x, rfl, hx, hc⟩ := (hs.below hb).at_ hlt
      have hpk := HP.out k hk
      have hsz := szN_cast (s := x) h1 h2
      have hle := szN_le (s := x) h1 h2
      have HS := Lib.hid hsz
      have HX := Lib.hid hx
      clear hsz hx
      obtain ⟨p, hp⟩ : ∃ p, p = posN a xs k := ⟨_, rfl⟩
      rw [← hp] at hpk
      simp only [← hp]
      have HPk := Lib.hid hp
      clear hp
      obtain ⟨q, hq⟩ : ∃ q, q = szN a x := ⟨_, rfl⟩
      rw [← hq] at hle HS
      have HQ := Lib.hid hq
      clear hq
      go_wp2_with (go_at_call 96; refine (size_any _ _ _).mono ?_; rintro e w' ⟨rfl, rfl⟩; rw [HS.out])
      obtain ⟨wo, rfl⟩ : ∃ wo : World, wo = wr := ⟨_, rfl⟩
      go_loopw [8, 11, 25] (fun n v i wr => ∃ j : Nat, j ≤ q ∧ i = .int .i64 j ∧ n = .int .i64 ((p + j : Nat) : Int) ∧ OwnI wr wo.heap.size v (wordN p j) ∧ Below wo.heap.size wo wr) (fun _ _ i _ => q - (intOf i).toNat)
      case atStart => exact ⟨0, Nat.zero_le _, rfl, rfl, OwnOf.nil _ _, Below.refl _ _⟩
      case round =>
        obtain ⟨j, hj, rfl, rfl, hw, hbi⟩ := hrel
        have hl := wordN_length p j
        by_cases hjq : j < q
        · have hlj : (wordN p j).length ≤ 8 := by omega
          clear hl
          go_wp2_with (at_builtin; refine app1 (Value.int .i64) oneInt 24 3 8 Try.underlying24 Try.info3 rfl rfl _ _ rfl _ _ _ _ hw rfl rfl ?_ ?_ ?_ ?_)
          · omega
          · omega
          · exact hbi.size
          intro v' w1 hown1 hgr1
          have hb2 := hbi.grown hgr1 hbi.size (fun j hj => (hw.lt j hj).1)
          clear hw hbi hgr1 hlj
          go_wp2
          go_roundw
          case rel => exact ⟨j + 1, by omega, by go_num, by go_num, by rw [wordN_succ]; simpa using hown1, hb2⟩
          case measure => simp [intOf]; omega
        · obtain rfl : j = q := by omega
          clear hl
          obtain ⟨A1, c1, rfl, hsl⟩ := hw.sl B0
          have hB2 : B0 ≤ wr.heap.size := by have := hb.size; have := hbi.size; omega
          have hown2 := hown.below hbi
          have hlk := wordsF_length a xs k
          have hlk2 : (wordsF a xs k).length ≤ 24 := by omega
          have hb2 := hb.trans (hbi.mono hb.size)
          clear hlk hown hw
          go_wp2_with (at_builtin; refine appW 34 24 Try.underlying34 Try.info24 rfl rfl _ _ rfl B0 _ _ _ _ _ _ hown2 hsl rfl rfl ?_ ?_ ?_ ?_ ?_)
          · omega
          · omega
          · exact hb2.size
          · exact hB
          intro v' w1 hown3 hgr3
          have hb3 := hb2.grown hgr3 hb2.size (fun j hj => (hown2.lt j hj).1)
          clear hown2 hsl hgr3 hb2 hlk2 hbi
          go_wp2
          go_roundw
          case rel => exact ⟨k + 1, by omega, by go_num, by rw [posN_succ a xs k HX.out, ← HPk.out, ← HQ.out]; go_num, by rw [wordsF_succ a xs k HX.out, ← HPk.out, ← HQ.out]; exact hown3, hb3⟩
          case measure => simp [intOf]; omega
    · obtain rfl : k = xs.length := by omega
      obtain ⟨A1, c1, rfl, hsl⟩ := hown.sl
      clear hown
      go_wp2
      go_ret3
      exact ⟨_, _, rfl, hsl, hb⟩

theorem words_no (a : Int) (xs : List Int) (A : Option Addr) (c B0 : Nat) (w : World) (hf : ¬ fitsP a xs) (hs : SlI w B0 A c xs) :
    Calls Try.prog 29 #[.int .i64 a, .slice A xs.length c] w fun e w' => e = .returned (.tuple #[.slice none 0 0, .int .i64 0, .int .i64 1]) ∧ w = w' := by
  have e1 : fitsB a xs = false := fitsB_no hf
  clear hf
  go_enter Try.func29, Try.ntmps29
  go_wp2_with (go_at_call 93; refine (fits_any _ _ _ _ _ _ hs).mono ?_; rintro e w' ⟨rfl, rfl⟩)
  go_ret3
  exact ⟨rfl, rfl⟩

/-! ### Bits -/
def okIn (a s n : Int) : Prop := (s = 0 ∧ wrapW a n = n) ∨ (s = 1 ∧ (n = 0 ∨ n = 1))
def bitsOf (n : Int) (q : Nat) : List Bool := (List.range q).map fun k => (n / 2 ^ k) % 2 == 1
def bitsF (a : Int) (xs ins : List Int) (k : Nat) : List Bool := ((List.range k).map fun i => bitsOf (ins.getD i 0) (szN a (xs.getD i 0))).flatten
theorem bitsOf_succ (n : Int) (q : Nat) : bitsOf n (q + 1) = bitsOf n q ++ [(n / 2 ^ q) % 2 == 1] := by simp [bitsOf, List.range_succ]
theorem bitsOf_length (n : Int) (q : Nat) : (bitsOf n q).length = q := by simp [bitsOf]
theorem bitsF_succ (a : Int) (xs ins : List Int) (k : Nat) {x y : Int} (h : xs[k]? = some x) (h' : ins[k]? = some y) : bitsF a xs ins (k + 1) = bitsF a xs ins k ++ bitsOf y (szN a x) := by
  simp [bitsF, List.range_succ, h, h']
theorem bitsF_length (a : Int) (xs ins : List Int) : ∀ k, k ≤ xs.length → k ≤ ins.length → (bitsF a xs ins k).length = posN a xs k := by
  intro k
  induction k with
  | zero => intro _ _; simp [bitsF, posN]
  | succ k ih =>
    intro h1 h2
    have hx : xs[k]? = some xs[k] := List.getElem?_eq_getElem (by omega)
    have hy : ins[k]? = some ins[k] := List.getElem?_eq_getElem (by omega)
    rw [bitsF_succ a xs ins k hx hy, posN_succ a xs k hx, List.length_append, bitsOf_length, ih (by omega) (by omega)]

def BitsRet (w : World) (bs : List Bool) (e : Ending) (w' : World) : Prop :=
  ∃ v, e = .returned (.tuple #[v, .int .i64 0]) ∧ OwnB w' w.heap.size v bs ∧ Below w.heap.size w w'
/-- An error: nothing, and its number. -/
def ErrRet (w : World) (k : Int) (e : Ending) (w' : World) : Prop := e = .returned (.tuple #[.slice none 0 0, .int .i64 k]) ∧ Below w.heap.size w w'
/-- All inputs so far are right. -/
def allIn (a : Int) (xs ins : List Int) (k : Nat) : Prop := ∀ j x y, j < k → xs[j]? = some x → ins[j]? = some y → okIn a x y
def Bits26 (a : Int) (xs ins : List Int) (w : World) (e : Ending) (w' : World) : Prop :=
  (allIn a xs ins xs.length ∧ BitsRet w (bitsF a xs ins xs.length) e w') ∨ (¬ allIn a xs ins xs.length ∧ ErrRet w 2 e w')

theorem bits_no (a : Int) (xs ins : List Int) (A A' : Option Addr) (c c' B0 : Nat) (w : World) (hf : ¬ (fitsP a xs ∧ ins.length = xs.length)) (hs : SlI w B0 A c xs) (hs' : SlI w B0 A' c' ins) :
    Calls Try.prog 26 #[.int .i64 a, .slice A xs.length c, .slice A' ins.length c'] w fun e w' => e = .returned (.tuple #[.slice none 0 0, .int .i64 1]) ∧ w = w' := by
  have hbig := hs.big
  have hbig' := hs'.big
  by_cases h : fitsP a xs
  · have e1 : fitsB a xs = true := fitsB_yes h
    have hd : ((ins.length : Int) != (xs.length : Int)) = true := by rw [bne_iff_ne]; intro h'; exact hf ⟨h, by omega⟩
    clear hf h
    go_enter Try.func26, Try.ntmps26
    go_wp2_with (go_at_call 93; refine (fits_any _ _ _ _ _ _ hs).mono ?_; rintro e w' ⟨rfl, rfl⟩)
    go_ret2
    exact ⟨rfl, rfl⟩
  · have e1 : fitsB a xs = false := fitsB_no h
    clear hf h
    go_enter Try.func26, Try.ntmps26
    go_wp2_with (go_at_call 93; refine (fits_any _ _ _ _ _ _ hs).mono ?_; rintro e w' ⟨rfl, rfl⟩)
    go_ret2
    exact ⟨rfl, rfl⟩

set_option maxHeartbeats 2000000 in
theorem bits_yes (a : Int) (xs ins : List Int) (A A' : Option Addr) (c c' B0 : Nat) (w : World) (hB : B0 ≤ w.heap.size) (hf : fitsP a xs) (hl : ins.length = xs.length) (hs : SlI w B0 A c xs) (hs' : SlI w B0 A' c' ins) :
    Calls Try.prog 26 #[.int .i64 a, .slice A xs.length c, .slice A' ins.length c'] w (Bits26 a xs ins w) := by
  have e1 : fitsB a xs = true := fitsB_yes hf
  have h1 := hf.1
  have h2 := hf.2.1
  have h3 := hf.2.2.1
  have HA := Lib.hid hf.2.2.2
  have HP := Lib.hid (posN_le h1 h2 xs)
  have hd : ((ins.length : Int) != (xs.length : Int)) = false := by simp [hl]
  have hbig := hs'.big
  have HL := Lib.hid hl
  clear hf hl
  have hb10 := bits_and_one
  go_enter Try.func26, Try.ntmps26
  go_wp2_with (go_at_call 93; refine (fits_any _ _ _ _ _ _ hs).mono ?_; rintro e w' ⟨rfl, rfl⟩)
  go_loopw [8, 9, 10, 11, 12, 26] (fun v _ _ _ _ i wr => ∃ k : Nat, k ≤ xs.length ∧ i = .int .i64 k ∧ allIn a xs ins k ∧ OwnB wr w.heap.size v (bitsF a xs ins k) ∧ Below w.heap.size w wr) (fun _ _ _ _ _ i _ => xs.length - (intOf i).toNat)
  case atStart => exact ⟨0, Nat.zero_le _, rfl, fun j x y h => by omega, OwnOf.nil _ _, Below.refl _ _⟩
  case round =>
    obtain ⟨k, hk, rfl, hall, hown, hb⟩ := hrel
    by_cases hlt : k < xs.length
    · obtain ⟨b, o, x, rfl, hx, hc⟩ := (hs.below hb).at_ hlt
      obtain ⟨b', o', y, rfl, hy, hc'⟩ := (hs'.below hb).at_ (k := k) (by have := HL.out; omega)
      have hlt' : k < ins.length := by have := HL.out; omega
      have hpk : (bitsF a xs ins k).length ≤ 200 := by
        rw [bitsF_length a xs ins k hk (by omega)]
        have := HP.out k hk
        omega
      have hle := szN_le (s := x) h1 h2
      have HS := Lib.hid (szN_cast (s := x) h1 h2)
      have hsort := HA.out x (List.mem_of_getElem? hx)
      have HX := Lib.hid hx
      have HY := Lib.hid hy
      have HALL := Lib.hid hall
      clear hx hy hall hs hs'
      by_cases hok : okIn a x y
      · -- the input is right: its bits
        have HOK := Lib.hid hok
        obtain ⟨q, hq⟩ : ∃ q, q = szN a x := ⟨_, rfl⟩
        rw [← hq] at hle HS
        have HQ := Lib.hid hq
        clear hq hsort
        obtain ⟨wo, rfl⟩ : ∃ wo : World, wo = wr := ⟨_, rfl⟩
        rcases hok with ⟨rfl, hw⟩ | ⟨rfl, hy | hy⟩
        case' inl =>
          have hne : (wrapW a y != y) = false := by simp [hw]
        case' inr.inl =>
          have hy0 : (y != 0) = false := by simp [hy]
          have hw := hy
        case' inr.inr =>
          have hy0 : (y != 0) = true := by rw [hy]; rfl
          have hy1 : (y != 1) = false := by rw [hy]; rfl
          have hw := hy
          clear hy
        all_goals
          try clear hy
          clear hw
          go_wp2_with (first
            | (go_at_call 25; refine (wrap_any _ _ _).mono ?_; rintro e w' ⟨rfl, rfl⟩)
            | (go_at_call 96; refine (size_any _ _ _).mono ?_; rintro e w' ⟨rfl, rfl⟩; rw [HS.out]))
          go_loopw [8, 12, 59] (fun v _ i wr => ∃ j : Nat, j ≤ q ∧ i = .int .i64 j ∧ OwnB wr w.heap.size v (bitsF a xs ins k ++ bitsOf y j) ∧ Below w.heap.size w wr) (fun _ _ i _ => q - (intOf i).toNat)
          case atStart => exact ⟨0, Nat.zero_le _, rfl, by simpa [bitsOf] using hown, hb⟩
          case round =>
            obtain ⟨j, hj, rfl, hw, hbi⟩ := hrel
            by_cases hjq : j < q
            · have hlj : (bitsF a xs ins k ++ bitsOf y j).length ≤ 210 := by rw [List.length_append, bitsOf_length]; omega
              go_wp2_with (at_builtin; refine app1 Value.bool oneBool 27 4 1 Try.underlying27 Try.info4 rfl rfl _ _ rfl _ _ _ _ hw rfl rfl ?_ ?_ ?_ ?_)
              · omega
              · omega
              · exact hbi.size
              intro v' w1 hown1 hgr1
              have hb2 := hbi.grown hgr1 hbi.size (fun j hj => (hw.lt j hj).1)
              clear hw hbi hgr1 hlj
              go_wp2
              go_roundw
              case rel => exact ⟨j + 1, by omega, by go_num, by rw [bitsOf_succ]; exact hown1, hb2⟩
              case measure => simp [intOf]; omega
            · obtain rfl : j = q := by omega
              go_wp2
              go_roundw
              case rel => exact ⟨k + 1, by omega, by go_num, fun i x' y' hi hx' hy' => by
                rcases Nat.lt_succ_iff_lt_or_eq.1 hi with h | rfl
                · exact HALL.out i x' y' h hx' hy'
                · rw [HX.out] at hx'; rw [HY.out] at hy'; cases hx'; cases hy'; exact HOK.out, by rw [bitsF_succ a xs ins k HX.out HY.out, ← HQ.out]; exact hw, hbi⟩
              case measure => simp [intOf]; omega
      · -- the input is wrong
        have hnot : ¬ allIn a xs ins xs.length := fun h => hok (h k x y hlt HX.out HY.out)
        have HN := Lib.hid hnot
        clear hnot
        rcases hsort with rfl | rfl
        · have hne : (wrapW a y != y) = true := by rw [bne_iff_ne]; intro h; exact hok (.inl ⟨rfl, h⟩)
          have HO := Lib.hid hok
          clear hok
          go_wp2_with (go_at_call 25; refine (wrap_any _ _ _).mono ?_; rintro e w' ⟨rfl, rfl⟩)
          go_ret2
          exact .inr ⟨HN.out, rfl, hb⟩
        · have hn0 : (y != 0) = true := by rw [bne_iff_ne]; intro h; exact hok (.inr ⟨rfl, .inl h⟩)
          have hn1 : (y != 1) = true := by rw [bne_iff_ne]; intro h; exact hok (.inr ⟨rfl, .inr h⟩)
          have HO := Lib.hid hok
          clear hok
          go_wp2
          go_ret2
          exact .inr ⟨HN.out, rfl, hb⟩
    · obtain rfl : k = xs.length := by omega
      have HALL := Lib.hid hall
      clear hall
      go_wp2
      go_ret2
      exact .inl ⟨HALL.out, _, rfl, hown, hb⟩
end Go.Proofs.Ytgmcajojigedaaa
namespace Go.Proofs.Ytgmcajojigedaaa
open Go.RowKit

def b01 (b : Bool) : Int := if b then 1 else 0
def valU : List Bool → Int
  | [] => 0
  | b :: r => b01 b + 2 * valU r
theorem valU_snoc (b : Bool) : ∀ l : List Bool, valU (l ++ [b]) = valU l + 2 ^ l.length * b01 b
  | [] => by simp [valU]
  | x :: r => by
    rw [List.cons_append, valU, valU, valU_snoc b r, List.length_cons, Int.pow_succ, Int.mul_add, ← Int.mul_assoc, Int.mul_comm 2 (2 ^ r.length), Int.add_assoc]
theorem b01_cases (b : Bool) : b01 b = 0 ∨ b01 b = 1 := by cases b <;> simp [b01]
theorem valU_nonneg : ∀ l : List Bool, 0 ≤ valU l
  | [] => by simp [valU]
  | x :: r => by have := valU_nonneg r; have := b01_cases x; simp only [valU]; omega
theorem valU_lt : ∀ l : List Bool, valU l < 2 ^ l.length
  | [] => by simp [valU]
  | x :: r => by have := valU_lt r; have := b01_cases x; simp only [valU, List.length_cons, Int.pow_succ]; omega
def valueF (s : Int) (bs : List Bool) : Int :=
  if s = 1 ∧ bs.length = 1 then valU bs
  else if s = 0 ∧ 1 ≤ bs.length ∧ bs.length ≤ 8 then valU bs - (if bs.getLast? = some true then 2 ^ bs.length else 0)
  else 0

theorem value_out (s : Int) (bs : List Bool) (A : Option Addr) (c B0 : Nat) (w : World) (h : ¬ (s = 1 ∧ bs.length = 1) ∧ ¬ (s = 0 ∧ 1 ≤ bs.length ∧ bs.length ≤ 8)) (hs : SlB w B0 A c bs) :
    Calls Try.prog 27 #[.int .i64 s, .slice A bs.length c] w fun e w' => e = .returned (.int .i64 (valueF s bs)) ∧ w = w' := by
  have hbig := hs.big
  have hv : valueF s bs = 0 := by unfold valueF; rw [if_neg h.1, if_neg h.2]
  rw [hv]
  clear hv
  obtain ⟨n, hn⟩ : ∃ n, n = bs.length := ⟨_, rfl⟩
  rw [← hn] at h hbig ⊢
  clear hn hs
  by_cases h1 : s = 1
  · subst h1
    have hne : ((n : Int) != 1) = true := by rw [bne_iff_ne]; omega
    clear h
    go_enter Try.func27, Try.ntmps27
    go_wp2
    go_ret
    exact ⟨rfl, rfl⟩
  · have e1 : (s == 1) = false := by simp [h1]
    by_cases h0 : s = 0
    · subst h0
      by_cases hlt : n < 1
      · have hlt' : (n : Int) < 1 := by omega
        clear h h1
        go_enter Try.func27, Try.ntmps27
        go_wp2
        go_ret
        exact ⟨rfl, rfl⟩
      · have hlt' : decide ((n : Int) < 1) = false := decide_eq_false (by omega)
        have hgt : 8 < (n : Int) := by omega
        clear h h1 hlt
        go_enter Try.func27, Try.ntmps27
        go_wp2
        go_ret
        exact ⟨rfl, rfl⟩
    · have e0 : (s == 0) = false := by simp [h0]
      have e2 : sizeF 1 s = 0 := by simp [sizeF, h0, h1]
      clear h h0 h1
      go_enter Try.func27, Try.ntmps27
      go_wp2_with (go_at_call 96; refine (size_any _ _ _).mono ?_; rintro e w' ⟨rfl, rfl⟩; rw [e2])
      go_ret
      exact ⟨rfl, rfl⟩



set_option maxHeartbeats 1000000 in
theorem value_int (bs : List Bool) (A : Option Addr) (c B0 : Nat) (w : World) (h1 : 1 ≤ bs.length) (h8 : bs.length ≤ 8) (hs : SlB w B0 A c bs) :
    Calls Try.prog 27 #[.int .i64 0, .slice A bs.length c] w fun e w' => e = .returned (.int .i64 (valueF 0 bs)) ∧ w = w' := by
  have hd1 : decide ((bs.length : Int) < 1) = false := decide_eq_false (by omega)
  have hd2 : decide (8 < (bs.length : Int)) = false := decide_eq_false (by omega)
  have e2 : sizeF 1 0 = 1 := rfl
  go_enter Try.func27, Try.ntmps27
  go_wp2_with (go_at_call 96; refine (size_any _ _ _).mono ?_; rintro e w' ⟨rfl, rfl⟩; rw [e2])
  go_loop [6, 7, 8, 36] (fun v _ _ i => ∃ k : Nat, k ≤ bs.length ∧ i = .int .i64 k ∧ v = .int .i64 (valU (bs.take k))) (fun _ _ _ i => bs.length - (intOf i).toNat)
  case atStart => exact ⟨0, Nat.zero_le _, rfl, rfl⟩
  case round =>
    obtain ⟨k, hk, rfl, rfl⟩ := hrel
    by_cases hlt : k < bs.length
    · obtain ⟨b, o, x, rfl, hx, hc⟩ := hs.at_ hlt
      have hl : (bs.take k).length = k := by rw [List.length_take]; omega
      have h0 := valU_nonneg (bs.take k)
      have hb := valU_lt (bs.take k)
      rw [hl] at hb
      have hsn : valU (bs.take (k + 1)) = valU (bs.take k) + 2 ^ k * b01 x := by
        have : bs.take (k + 1) = bs.take k ++ [x] := by rw [List.take_add_one, hx]; rfl
        rw [this, valU_snoc, hl]
      have HN := Lib.hid hsn
      have HB := Lib.hid hb
      clear hs hx hsn hl hb
      cases x
      · go_wp2
        go_round
        case rel => exact ⟨k + 1, by omega, by go_num, by rw [HN.out]; simp [b01]⟩
        case measure => simp [intOf]; omega
      · go_wp2
        go_round
        case rel => exact ⟨k + 1, by omega, by go_num, by rw [HN.out, or_pow _ _ (by omega) h0 HB.out]; simp [b01]⟩
        case measure => simp [intOf]; omega
    · obtain rfl : k = bs.length := by omega
      obtain ⟨b, o, x, rfl, hx, hc⟩ := hs.at_ (k := bs.length - 1) (by omega)
      have hv : valueF 0 bs = valU bs - (if x = true then 2 ^ bs.length else 0) := by
        unfold valueF
        rw [if_neg (by omega), if_pos ⟨rfl, h1, h8⟩, List.getLast?_eq_getElem?, hx]
        simp
      rw [List.take_length]
      have HV := Lib.hid hv
      have hp1 : (2 : Int) ^ bs.length ≤ 256 := by
        have : (2 : Nat) ^ bs.length ≤ 2 ^ 8 := Nat.pow_le_pow_right (by omega) h8
        have hpi : ((2 ^ bs.length : Nat) : Int) = 2 ^ bs.length := by simp
        omega
      have hp0 : (0 : Int) < 2 ^ bs.length := Int.pow_pos (by omega)
      have h0 := valU_nonneg bs
      have hb := valU_lt bs
      clear hs hx hv
      cases x
      all_goals
        go_wp2
        go_ret
        refine ⟨?_, rfl⟩
        rw [HV.out]
      · simp
      · simp

set_option maxHeartbeats 1000000 in
theorem value_bool (bs : List Bool) (A : Option Addr) (c B0 : Nat) (w : World) (h1 : bs.length = 1) (hs : SlB w B0 A c bs) :
    Calls Try.prog 27 #[.int .i64 1, .slice A bs.length c] w fun e w' => e = .returned (.int .i64 (valueF 1 bs)) ∧ w = w' := by
  have hne : ((bs.length : Int) != 1) = false := by rw [h1]; rfl
  have e2 : sizeF 1 1 = 1 := rfl
  have H1 := Lib.hid h1
  have hbig : bs.length ≤ 1 := by omega
  clear h1
  go_enter Try.func27, Try.ntmps27
  go_wp2_with (go_at_call 96; refine (size_any _ _ _).mono ?_; rintro e w' ⟨rfl, rfl⟩; rw [e2])
  go_loop [6, 7, 8, 36] (fun v _ _ i => ∃ k : Nat, k ≤ bs.length ∧ i = .int .i64 k ∧ v = .int .i64 (valU (bs.take k))) (fun _ _ _ i => bs.length - (intOf i).toNat)
  case atStart => exact ⟨0, Nat.zero_le _, rfl, rfl⟩
  case round =>
    obtain ⟨k, hk, rfl, rfl⟩ := hrel
    by_cases hlt : k < bs.length
    · obtain ⟨b, o, x, rfl, hx, hc⟩ := hs.at_ hlt
      have hl : (bs.take k).length = k := by rw [List.length_take]; omega
      have h0 := valU_nonneg (bs.take k)
      have hb := valU_lt (bs.take k)
      rw [hl] at hb
      have hsn : valU (bs.take (k + 1)) = valU (bs.take k) + 2 ^ k * b01 x := by
        have : bs.take (k + 1) = bs.take k ++ [x] := by rw [List.take_add_one, hx]; rfl
        rw [this, valU_snoc, hl]
      have HN := Lib.hid hsn
      have HB := Lib.hid hb
      clear hs hx hsn hl hb
      cases x
      · go_wp2
        go_round
        case rel => exact ⟨k + 1, by omega, by go_num, by rw [HN.out]; simp [b01]⟩
        case measure => simp [intOf]; omega
      · go_wp2
        go_round
        case rel => exact ⟨k + 1, by omega, by go_num, by rw [HN.out, or_pow _ _ (by omega) h0 HB.out]; simp [b01]⟩
        case measure => simp [intOf]; omega
    · obtain rfl : k = bs.length := by omega
      have hv : valueF 1 bs = valU bs := if_pos ⟨rfl, H1.out⟩
      rw [List.take_length]
      have HV := Lib.hid hv
      clear hv
      go_wp2
      go_ret
      exact ⟨by rw [HV.out]; rfl, rfl⟩

theorem value_any (s : Int) (bs : List Bool) (A : Option Addr) (c B0 : Nat) (w : World) (hs : SlB w B0 A c bs) :
    Calls Try.prog 27 #[.int .i64 s, .slice A bs.length c] w fun e w' => e = .returned (.int .i64 (valueF s bs)) ∧ w = w' := by
  by_cases h1 : s = 1 ∧ bs.length = 1
  · obtain ⟨rfl, h⟩ := h1
    exact value_bool bs A c B0 w h hs
  by_cases h2 : s = 0 ∧ 1 ≤ bs.length ∧ bs.length ≤ 8
  · obtain ⟨rfl, h3, h4⟩ := h2
    exact value_int bs A c B0 w h3 h4 hs
  · exact value_out s bs A c B0 w ⟨h1, h2⟩ hs
end Go.Proofs.Ytgmcajojigedaaa
