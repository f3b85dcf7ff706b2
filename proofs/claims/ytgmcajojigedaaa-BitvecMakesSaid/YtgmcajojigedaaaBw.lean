/- Walks of blast.Words, blast.Bits and blast.Value. -/
import Derived.Test.YtgmcajojigedaaaBl
set_option linter.unusedSimpArgs false
set_option linter.unusedVariables false
namespace Go.Proofs.Ytgmcajojigedaaa
open Go.RowKit


/-- The number of bits of a sort; where the bits of input k begin; the word of input k. -/
def szN (a s : Int) : Nat := (sizeF a s).toNat
def posN (a : Int) (xs : List Int) (k : Nat) : Nat := ((xs.take k).map (szN a)).sum
def wordN (p n : Nat) : List Int := (List.range n).map fun j => 2 * ((p + j + 1 : Nat) : Int)
def wordsF (a : Int) (xs : List Int) (k : Nat) : List (List Int) := (List.range k).map fun i => wordN (posN a xs i) (szN a (xs.getD i 0))

theorem wordN_succ (p n : Nat) : wordN p (n + 1) = wordN p n ++ [2 * ((p + n + 1 : Nat) : Int)] := by simp [wordN, List.range_succ]
theorem wordN_length (p n : Nat) : (wordN p n).length = n := by simp [wordN]
theorem wordsF_succ (a : Int) (xs : List Int) (k : Nat) {x : Int} (h : xs[k]? = some x) : wordsF a xs (k + 1) = wordsF a xs k ++ [wordN (posN a xs k) (szN a x)] := by
  have : xs.getD k 0 = x := by simp [List.getD, h]
  simp [wordsF, List.range_succ, h]
theorem wordsF_length (a : Int) (xs : List Int) (k : Nat) : (wordsF a xs k).length = k := by simp [wordsF]
theorem posN_succ (a : Int) (xs : List Int) (k : Nat) {x : Int} (h : xs[k]? = some x) : posN a xs (k + 1) = posN a xs k + szN a x := by
  obtain ⟨hk, he⟩ := List.getElem?_eq_some_iff.1 h
  subst he
  unfold posN
  rw [List.take_succ_eq_append_getElem hk, List.map_append, List.sum_append]
  simp
theorem sizeF_le {a s : Int} (h1 : 2 ≤ a) (h2 : a ≤ 8) : 0 ≤ sizeF a s ∧ sizeF a s ≤ 8 := by unfold sizeF; split <;> (try split) <;> omega
theorem szN_le {a s : Int} (h1 : 2 ≤ a) (h2 : a ≤ 8) : szN a s ≤ 8 := by have := sizeF_le (s := s) h1 h2; unfold szN; omega
theorem szN_cast {a s : Int} (h1 : 2 ≤ a) (h2 : a ≤ 8) : sizeF a s = (szN a s : Nat) := by have := sizeF_le (s := s) h1 h2; unfold szN; omega
theorem posN_le {a : Int} (h1 : 2 ≤ a) (h2 : a ≤ 8) (xs : List Int) : ∀ k, k ≤ xs.length → posN a xs k ≤ 8 * k := by
  intro k
  induction k with
  | zero => intro _; simp [posN]
  | succ k ih =>
    intro hk
    have hx : xs[k]? = some xs[k] := List.getElem?_eq_getElem (by omega)
    rw [posN_succ a xs k hx]
    have := ih (by omega)
    have := szN_le (s := xs[k]) h1 h2
    omega

/-- What Words hands back where the sorts fit. -/
def WordsRet (w : World) (B0 : Nat) (ws : List (List Int)) (n : Nat) (e : Ending) (w' : World) : Prop :=
  ∃ A c, e = .returned (.tuple #[.slice A ws.length c, .int .i64 n, .int .i64 0]) ∧ SlW w' B0 A c ws ∧ Below w.heap.size w w'

set_option maxHeartbeats 1000000 in
theorem words_yes (a : Int) (xs : List Int) (A : Option Addr) (c B0 : Nat) (w : World) (hB : B0 ≤ w.heap.size) (hf : fitsP a xs) (hs : SlI w B0 A c xs) :
    Calls Try.prog 29 #[.int .i64 a, .slice A xs.length c] w (WordsRet w B0 (wordsF a xs xs.length) (posN a xs xs.length)) := by
  have e1 : fitsB a xs = true := fitsB_yes hf
  have h1 := hf.1
  have h2 := hf.2.1
  have h3 := hf.2.2.1
  have hpos := posN_le h1 h2 xs
  clear hf
  have HP := Lib.hid hpos
  clear hpos
  go_enter Try.func29, Try.ntmps29
  go_wp2_with (go_at_call 93; refine (fits_any _ _ _ _ _ _ hs).mono ?_; rintro e w' ⟨rfl, rfl⟩)
  go_loopw [7, 8, 10, 11, 18] (fun v n _ _ i wr => ∃ k : Nat, k ≤ xs.length ∧ i = .int .i64 k ∧ n = .int .i64 (posN a xs k) ∧ OwnW wr B0 w.heap.size v (wordsF a xs k) ∧ Below w.heap.size w wr) (fun _ _ _ _ i _ => xs.length - (intOf i).toNat)
  case atStart => exact ⟨0, Nat.zero_le _, rfl, rfl, OwnW.nil _ _ _, Below.refl _ _⟩
  case round =>
    obtain ⟨k, hk, rfl, rfl, hown, hb⟩ := hrel
    by_cases hlt : k < xs.length
    · obtain ⟨b, o, x, rfl, hx, hc⟩ := (hs.below hb).at_ hlt
      have hpk := HP.out k hk
      have hsz := szN_cast (s := x) h1 h2
      have hle := szN_le (s := x) h1 h2
      have HS := Lib.hid hsz
      have HX := Lib.hid hx
      clear hsz hx
      obtain ⟨p, hp⟩ : ∃ p, p = posN a xs k := ⟨_, rfl⟩
      rw [← hp] at hpk
      simp only [← hp]
      have HPk := Lib.hid hp
      clear hp
      obtain ⟨q, hq⟩ : ∃ q, q = szN a x := ⟨_, rfl⟩
      rw [← hq] at hle HS
      have HQ := Lib.hid hq
      clear hq
      go_wp2_with (go_at_call 96; refine (size_any _ _ _).mono ?_; rintro e w' ⟨rfl, rfl⟩; rw [HS.out])
      obtain ⟨wo, rfl⟩ : ∃ wo : World, wo = wr := ⟨_, rfl⟩
      go_loopw [8, 11, 25] (fun n v i wr => ∃ j : Nat, j ≤ q ∧ i = .int .i64 j ∧ n = .int .i64 ((p + j : Nat) : Int) ∧ OwnI wr wo.heap.size v (wordN p j) ∧ Below wo.heap.size wo wr) (fun _ _ i _ => q - (intOf i).toNat)
      case atStart => exact ⟨0, Nat.zero_le _, rfl, rfl, OwnOf.nil _ _, Below.refl _ _⟩
      case round =>
        obtain ⟨j, hj, rfl, rfl, hw, hbi⟩ := hrel
        have hl := wordN_length p j
        by_cases hjq : j < q
        · have hlj : (wordN p j).length ≤ 8 := by omega
          clear hl
          go_wp2_with (at_builtin; refine app1 (Value.int .i64) oneInt 24 3 8 Try.underlying24 Try.info3 rfl rfl _ _ rfl _ _ _ _ hw rfl rfl ?_ ?_ ?_ ?_)
          · omega
          · omega
          · exact hbi.size
          intro v' w1 hown1 hgr1
          have hb2 := hbi.grown hgr1 hbi.size (fun j hj => (hw.lt j hj).1)
          clear hw hbi hgr1 hlj
          go_wp2
          go_roundw
          case rel => exact ⟨j + 1, by omega, by go_num, by go_num, by rw [wordN_succ]; simpa using hown1, hb2⟩
          case measure => simp [intOf]; omega
        · obtain rfl : j = q := by omega
          clear hl
          obtain ⟨A1, c1, rfl, hsl⟩ := hw.sl B0
          have hB2 : B0 ≤ wr.heap.size := by have := hb.size; have := hbi.size; omega
          have hown2 := hown.below hbi
          have hlk := wordsF_length a xs k
          have hlk2 : (wordsF a xs k).length ≤ 24 := by omega
          have hb2 := hb.trans (hbi.mono hb.size)
          clear hlk hown hw
          go_wp2_with (at_builtin; refine appW 34 24 Try.underlying34 Try.info24 rfl rfl _ _ rfl B0 _ _ _ _ _ _ hown2 hsl rfl rfl ?_ ?_ ?_ ?_ ?_)
          · omega
          · omega
          · exact hb2.size
          · exact hB
          intro v' w1 hown3 hgr3
          have hb3 := hb2.grown hgr3 hb2.size (fun j hj => (hown2.lt j hj).1)
          clear hown2 hsl hgr3 hb2 hlk2 hbi
          go_wp2
          go_roundw
          case rel => exact ⟨k + 1, by omega, by go_num, by rw [posN_succ a xs k HX.out, ← HPk.out, ← HQ.out]; go_num, by rw [wordsF_succ a xs k HX.out, ← HPk.out, ← HQ.out]; exact hown3, hb3⟩
          case measure => simp [intOf]; omega
    · obtain rfl : k = xs.length := by omega
      obtain ⟨A1, c1, rfl, hsl⟩ := hown.sl
      clear hown
      go_wp2
      go_ret3
      exact ⟨_, _, rfl, hsl, hb⟩

theorem words_no (a : Int) (xs : List Int) (A : Option Addr) (c B0 : Nat) (w : World) (hf : ¬ fitsP a xs) (hs : SlI w B0 A c xs) :
    Calls Try.prog 29 #[.int .i64 a, .slice A xs.length c] w fun e w' => e = .returned (.tuple #[.slice none 0 0, .int .i64 0, .int .i64 1]) ∧ w = w' := by
  have e1 : fitsB a xs = false := fitsB_no hf
  clear hf
  go_enter Try.func29, Try.ntmps29
  go_wp2_with (go_at_call 93; refine (fits_any _ _ _ _ _ _ hs).mono ?_; rintro e w' ⟨rfl, rfl⟩)
  go_ret3
  exact ⟨rfl, rfl⟩

/-! ### Bits -/
def okIn (a s n : Int) : Prop := (s = 0 ∧ wrapW a n = n) ∨ (s = 1 ∧ (n = 0 ∨ n = 1))
def bitsOf (n : Int) (q : Nat) : List Bool := (List.range q).map fun k => (n / 2 ^ k) % 2 == 1
def bitsF (a : Int) (xs ins : List Int) (k : Nat) : List Bool := ((List.range k).map fun i => bitsOf (ins.getD i 0) (szN a (xs.getD i 0))).flatten
theorem bitsOf_succ (n : Int) (q : Nat) : bitsOf n (q + 1) = bitsOf n q ++ [(n / 2 ^ q) % 2 == 1] := by simp [bitsOf, List.range_succ]
theorem bitsOf_length (n : Int) (q : Nat) : (bitsOf n q).length = q := by simp [bitsOf]
theorem bitsF_succ (a : Int) (xs ins : List Int) (k : Nat) {x y : Int} (h : xs[k]? = some x) (h' : ins[k]? = some y) : bitsF a xs ins (k + 1) = bitsF a xs ins k ++ bitsOf y (szN a x) := by
  simp [bitsF, List.range_succ, h, h']
theorem bitsF_length (a : Int) (xs ins : List Int) : ∀ k, k ≤ xs.length → k ≤ ins.length → (bitsF a xs ins k).length = posN a xs k := by
  intro k
  induction k with
  | zero => intro _ _; simp [bitsF, posN]
  | succ k ih =>
    intro h1 h2
    have hx : xs[k]? = some xs[k] := List.getElem?_eq_getElem (by omega)
    have hy : ins[k]? = some ins[k] := List.getElem?_eq_getElem (by omega)
    rw [bitsF_succ a xs ins k hx hy, posN_succ a xs k hx, List.length_append, bitsOf_length, ih (by omega) (by omega)]

def BitsRet (w : World) (bs : List Bool) (e : Ending) (w' : World) : Prop :=
  ∃ v, e = .returned (.tuple #[v, .int .i64 0]) ∧ OwnB w' w.heap.size v bs ∧ Below w.heap.size w w'
/-- An error: nothing, and its number. -/
def ErrRet (w : World) (k : Int) (e : Ending) (w' : World) : Prop := e = .returned (.tuple #[.slice none 0 0, .int .i64 k]) ∧ Below w.heap.size w w'
/-- All inputs so far are right. -/
def allIn (a : Int) (xs ins : List Int) (k : Nat) : Prop := ∀ j x y, j < k → xs[j]? = some x → ins[j]? = some y → okIn a x y
def Bits26 (a : Int) (xs ins : List Int) (w : World) (e : Ending) (w' : World) : Prop :=
  (allIn a xs ins xs.length ∧ BitsRet w (bitsF a xs ins xs.length) e w') ∨ (¬ allIn a xs ins xs.length ∧ ErrRet w 2 e w')

theorem bits_no (a : Int) (xs ins : List Int) (A A' : Option Addr) (c c' B0 : Nat) (w : World) (hf : ¬ (fitsP a xs ∧ ins.length = xs.length)) (hs : SlI w B0 A c xs) (hs' : SlI w B0 A' c' ins) :
    Calls Try.prog 26 #[.int .i64 a, .slice A xs.length c, .slice A' ins.length c'] w fun e w' => e = .returned (.tuple #[.slice none 0 0, .int .i64 1]) ∧ w = w' := by
  have hbig := hs.big
  have hbig' := hs'.big
  by_cases h : fitsP a xs
  · have e1 : fitsB a xs = true := fitsB_yes h
    have hd : ((ins.length : Int) != (xs.length : Int)) = true := by rw [bne_iff_ne]; intro h'; exact hf ⟨h, by omega⟩
    clear hf h
    go_enter Try.func26, Try.ntmps26
    go_wp2_with (go_at_call 93; refine (fits_any _ _ _ _ _ _ hs).mono ?_; rintro e w' ⟨rfl, rfl⟩)
    go_ret2
    exact ⟨rfl, rfl⟩
  · have e1 : fitsB a xs = false := fitsB_no h
    clear hf h
    go_enter Try.func26, Try.ntmps26
    go_wp2_with (go_at_call 93; refine (fits_any _ _ _ _ _ _ hs).mono ?_; rintro e w' ⟨rfl, rfl⟩)
    go_ret2
    exact ⟨rfl, rfl⟩

set_option maxHeartbeats 2000000 in
theorem bits_yes (a : Int) (xs ins : List Int) (A A' : Option Addr) (c c' B0 : Nat) (w : World) (hB : B0 ≤ w.heap.size) (hf : fitsP a xs) (hl : ins.length = xs.length) (hs : SlI w B0 A c xs) (hs' : SlI w B0 A' c' ins) :
    Calls Try.prog 26 #[.int .i64 a, .slice A xs.length c, .slice A' ins.length c'] w (Bits26 a xs ins w) := by
  have e1 : fitsB a xs = true := fitsB_yes hf
  have h1 := hf.1
  have h2 := hf.2.1
  have h3 := hf.2.2.1
  have HA := Lib.hid hf.2.2.2
  have HP := Lib.hid (posN_le h1 h2 xs)
  have hd : ((ins.length : Int) != (xs.length : Int)) = false := by simp [hl]
  have hbig := hs'.big
  have HL := Lib.hid hl
  clear hf hl
  have hb10 := bits_and_one
  go_enter Try.func26, Try.ntmps26
  go_wp2_with (go_at_call 93; refine (fits_any _ _ _ _ _ _ hs).mono ?_; rintro e w' ⟨rfl, rfl⟩)
  go_loopw [8, 9, 10, 11, 12, 26] (fun v _ _ _ _ i wr => ∃ k : Nat, k ≤ xs.length ∧ i = .int .i64 k ∧ allIn a xs ins k ∧ OwnB wr w.heap.size v (bitsF a xs ins k) ∧ Below w.heap.size w wr) (fun _ _ _ _ _ i _ => xs.length - (intOf i).toNat)
  case atStart => exact ⟨0, Nat.zero_le _, rfl, fun j x y h => by omega, OwnOf.nil _ _, Below.refl _ _⟩
  case round =>
    obtain ⟨k, hk, rfl, hall, hown, hb⟩ := hrel
    by_cases hlt : k < xs.length
    · obtain ⟨b, o, x, rfl, hx, hc⟩ := (hs.below hb).at_ hlt
      obtain ⟨b', o', y, rfl, hy, hc'⟩ := (hs'.below hb).at_ (k := k) (by have := HL.out; omega)
      have hlt' : k < ins.length := by have := HL.out; omega
      have hpk : (bitsF a xs ins k).length ≤ 200 := by
        rw [bitsF_length a xs ins k hk (by omega)]
        have := HP.out k hk
        omega
      have hle := szN_le (s := x) h1 h2
      have HS := Lib.hid (szN_cast (s := x) h1 h2)
      have hsort := HA.out x (List.mem_of_getElem? hx)
      have HX := Lib.hid hx
      have HY := Lib.hid hy
      have HALL := Lib.hid hall
      clear hx hy hall hs hs'
      by_cases hok : okIn a x y
      · -- the input is right: its bits
        have HOK := Lib.hid hok
        obtain ⟨q, hq⟩ : ∃ q, q = szN a x := ⟨_, rfl⟩
        rw [← hq] at hle HS
        have HQ := Lib.hid hq
        clear hq hsort
        obtain ⟨wo, rfl⟩ : ∃ wo : World, wo = wr := ⟨_, rfl⟩
        rcases hok with ⟨rfl, hw⟩ | ⟨rfl, hy | hy⟩
        case' inl =>
          have hne : (wrapW a y != y) = false := by simp [hw]
        case' inr.inl =>
          have hy0 : (y != 0) = false := by simp [hy]
          have hw := hy
        case' inr.inr =>
          have hy0 : (y != 0) = true := by rw [hy]; rfl
          have hy1 : (y != 1) = false := by rw [hy]; rfl
          have hw := hy
          clear hy
        all_goals
          try clear hy
          clear hw
          go_wp2_with (first
            | (go_at_call 25; refine (wrap_any _ _ _).mono ?_; rintro e w' ⟨rfl, rfl⟩)
            | (go_at_call 96; refine (size_any _ _ _).mono ?_; rintro e w' ⟨rfl, rfl⟩; rw [HS.out]))
          go_loopw [8, 12, 59] (fun v _ i wr => ∃ j : Nat, j ≤ q ∧ i = .int .i64 j ∧ OwnB wr w.heap.size v (bitsF a xs ins k ++ bitsOf y j) ∧ Below w.heap.size w wr) (fun _ _ i _ => q - (intOf i).toNat)
          case atStart => exact ⟨0, Nat.zero_le _, rfl, by simpa [bitsOf] using hown, hb⟩
          case round =>
            obtain ⟨j, hj, rfl, hw, hbi⟩ := hrel
            by_cases hjq : j < q
            · have hlj : (bitsF a xs ins k ++ bitsOf y j).length ≤ 210 := by rw [List.length_append, bitsOf_length]; omega
              go_wp2_with (at_builtin; refine app1 Value.bool oneBool 27 4 1 Try.underlying27 Try.info4 rfl rfl _ _ rfl _ _ _ _ hw rfl rfl ?_ ?_ ?_ ?_)
              · omega
              · omega
              · exact hbi.size
              intro v' w1 hown1 hgr1
              have hb2 := hbi.grown hgr1 hbi.size (fun j hj => (hw.lt j hj).1)
              clear hw hbi hgr1 hlj
              go_wp2
              go_roundw
              case rel => exact ⟨j + 1, by omega, by go_num, by rw [bitsOf_succ]; exact hown1, hb2⟩
              case measure => simp [intOf]; omega
            · obtain rfl : j = q := by omega
              go_wp2
              go_roundw
              case rel => exact ⟨k + 1, by omega, by go_num, fun i x' y' hi hx' hy' => by
                rcases Nat.lt_succ_iff_lt_or_eq.1 hi with h | rfl
                · exact HALL.out i x' y' h hx' hy'
                · rw [HX.out] at hx'; rw [HY.out] at hy'; cases hx'; cases hy'; exact HOK.out, by rw [bitsF_succ a xs ins k HX.out HY.out, ← HQ.out]; exact hw, hbi⟩
              case measure => simp [intOf]; omega
      · -- the input is wrong
        have hnot : ¬ allIn a xs ins xs.length := fun h => hok (h k x y hlt HX.out HY.out)
        have HN := Lib.hid hnot
        clear hnot
        rcases hsort with rfl | rfl
        · have hne : (wrapW a y != y) = true := by rw [bne_iff_ne]; intro h; exact hok (.inl ⟨rfl, h⟩)
          have HO := Lib.hid hok
          clear hok
          go_wp2_with (go_at_call 25; refine (wrap_any _ _ _).mono ?_; rintro e w' ⟨rfl, rfl⟩)
          go_ret2
          exact .inr ⟨HN.out, rfl, hb⟩
        · have hn0 : (y != 0) = true := by rw [bne_iff_ne]; intro h; exact hok (.inr ⟨rfl, .inl h⟩)
          have hn1 : (y != 1) = true := by rw [bne_iff_ne]; intro h; exact hok (.inr ⟨rfl, .inr h⟩)
          have HO := Lib.hid hok
          clear hok
          go_wp2
          go_ret2
          exact .inr ⟨HN.out, rfl, hb⟩
    · obtain rfl : k = xs.length := by omega
      have HALL := Lib.hid hall
      clear hall
      go_wp2
      go_ret2
      exact .inl ⟨HALL.out, _, rfl, hown, hb⟩
end Go.Proofs.Ytgmcajojigedaaa
