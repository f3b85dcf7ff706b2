/- The walk of the law BlastNumbers. -/
import Derived.Test.YtgmcajojigedaaaEb
namespace Go.Proofs.Ytgmcajojigedaaa
open Go.RowKit

def equalWB (ws vs : List (List Int)) : Bool := decide (ws = vs)
theorem SlW.drewN {w : World} {B0 : Nat} {A : Option Addr} {c : Nat} {ws : List (List Int)} (h : SlW w B0 A c ws) (n : Nat) : SlW (w.drewN n) B0 A c ws :=
  let ⟨sv, h1, h2, h3⟩ := h; ⟨sv, h1, h2.drewN n, fun i p x hp hx => ⟨(h3 i p x hp hx).1, (h3 i p x hp hx).2.drewN n⟩⟩

theorem words1_any (xs ys : List Int) (A1 A2 : Option Addr) (c1 c2 B0 : Nat) (w : World) (h1 : SlI w B0 A1 c1 xs) (h2 : SlI w B0 A2 c2 ys) :
    Calls Try.prog 100 #[.slice A1 xs.length c1, .slice A2 ys.length c2] w (RetDraw (.bool (equalIB xs ys)) w) := by
  go_enter Try.func100, Try.ntmps100
  go_wp2_with (go_at_call 92; refine (equalI_any xs ys A1 A2 c1 c2 B0 _ h1 h2).mono ?_; rintro e w' ⟨rfl, n, rfl⟩)
  go_ret
  exact ⟨rfl, n, rfl⟩

set_option maxHeartbeats 1000000 in
theorem equalFunc_any (ws vs : List (List Int)) (A1 A2 : Option Addr) (c1 c2 B0 : Nat) (w : World) (hl1 : ws.length ≤ 1000) (hl2 : vs.length ≤ 1000) (h1 : SlW w B0 A1 c1 ws) (h2 : SlW w B0 A2 c2 vs) :
    Calls Try.prog 99 #[.slice A1 ws.length c1, .slice A2 vs.length c2, .func (.func 100) #[] #[]] w (RetDraw (.bool (equalWB ws vs)) w) := by
  have H1 := Lib.hid h1
  have H2 := Lib.hid h2
  clear h1 h2
  by_cases hl : ws.length = vs.length
  · have hd : ((ws.length : Int) != (vs.length : Int)) = false := by simp [hl]
    have HL := Lib.hid hl
    clear hl
    go_enter Try.func99, Try.ntmps99
    go_wp2
    go_loopw [7, 8, 9, 17] (fun _ _ _ i wr => ∃ k : Nat, k ≤ ws.length ∧ i = .int .i64 k ∧ (∀ j, j < k → ws[j]? = vs[j]?) ∧ ∃ n, wr = w.drewN n) (fun _ _ _ i _ => ws.length - (intOf i).toNat)
    case atStart => exact ⟨0, Nat.zero_le _, rfl, fun j h => by omega, 0, rfl⟩
    case round =>
      obtain ⟨k, hk, rfl, hall, n, rfl⟩ := hrel
      by_cases hlt : k < ws.length
      · obtain ⟨b1, o1, x, A3, c3, rfl, hx, hcx, hsx⟩ := (H1.out.drewN n).at_ hlt
        obtain ⟨b2, o2, y, A4, c4, rfl, hy, hcy, hsy⟩ := (H2.out.drewN n).at_ (k := k) (by have := HL.out; omega)
        have hlt2 : (k : Int) < (vs.length : Int) := by have := HL.out; omega
        have hall' := Lib.hid hall
        have HX := Lib.hid hx
        have HY := Lib.hid hy
        have HSX := Lib.hid hsx
        have HSY := Lib.hid hsy
        clear hall hx hy hsx hsy
        by_cases hxy : x = y
        · have hne : equalIB x y = true := decide_eq_true hxy
          have HXY := Lib.hid hxy
          clear hxy
          go_wp2_with (go_at_call 100; refine (words1_any x y A3 A4 c3 c4 B0 _ HSX.out HSY.out).mono ?_; rintro e w' ⟨rfl, n', rfl⟩)
          go_roundw
          case rel => exact ⟨k + 1, by omega, by go_num, fun j hj => by
            rcases Nat.lt_succ_iff_lt_or_eq.1 hj with h | rfl
            · exact hall'.out j h
            · rw [HX.out, HY.out, HXY.out], _, rfl⟩
          case measure => simp [intOf]; omega
        · have hne : equalIB x y = false := decide_eq_false hxy
          have HF : Hid (equalWB ws vs = false) := decide_eq_false fun h => by
            have e1 := HX.out
            rw [h, HY.out] at e1
            exact hxy (by cases e1; rfl)
          clear hxy
          go_wp2_with (go_at_call 100; refine (words1_any x y A3 A4 c3 c4 B0 _ HSX.out HSY.out).mono ?_; rintro e w' ⟨rfl, n', rfl⟩)
          go_ret
          exact ⟨by rw [HF.out]; rfl, _, rfl⟩
      · have HF : Hid (equalWB ws vs = true) := decide_eq_true (List.ext_getElem? fun j => by
          by_cases hj : j < k
          · exact hall j hj
          · have := HL.out
            rw [List.getElem?_eq_none (by omega), List.getElem?_eq_none (by omega)])
        clear hall
        go_wp2
        go_ret
        exact ⟨by rw [HF.out]; rfl, _, rfl⟩
  · have hd : ((ws.length : Int) != (vs.length : Int)) = true := by rw [bne_iff_ne]; omega
    have HF : Hid (equalWB ws vs = false) := decide_eq_false fun h => hl (by rw [h])
    clear hl
    go_enter Try.func99, Try.ntmps99
    go_wp2
    go_ret
    exact ⟨by rw [HF.out]; rfl, 0, rfl⟩

theorem lwords_any (ws vs : List (List Int)) (A1 A2 : Option Addr) (c1 c2 B0 : Nat) (w : World) (hl1 : ws.length ≤ 1000) (hl2 : vs.length ≤ 1000) (h1 : SlW w B0 A1 c1 ws) (h2 : SlW w B0 A2 c2 vs) :
    Calls Try.prog 32 #[.slice A1 ws.length c1, .slice A2 vs.length c2] w (RetDraw (.bool (equalWB ws vs)) w) := by
  go_enter Try.func32, Try.ntmps32
  go_wp2_with (go_at_call 99; go_must (refine (equalFunc_any ws vs A1 A2 c1 c2 B0 _ hl1 hl2 h1 h2).mono ?_; rintro e w' ⟨rfl, n, rfl⟩))
  go_ret
  exact ⟨rfl, n, rfl⟩

open Classical in
noncomputable def wordsR (a : Int) (xs : List Int) : List (List Int) × Nat × Int := if fitsP a xs then (wordsF a xs xs.length, posN a xs xs.length, 0) else ([], 0, 1)
open Classical in
noncomputable def bitsR (a : Int) (xs ins : List Int) : List Bool × Int :=
  if fitsP a xs ∧ ins.length = xs.length then (if allIn a xs ins xs.length then (bitsF a xs ins xs.length, 0) else ([], 2)) else ([], 1)
theorem wordsR_length (a : Int) (xs : List Int) : (wordsR a xs).1.length ≤ 24 := by
  unfold wordsR
  split
  · rename_i h
    have := h.2.2.1
    rw [wordsF_length]
    exact this
  · simp
def WordsAll (w : World) (B0 : Nat) (R : List (List Int) × Nat × Int) (e : Ending) (w' : World) : Prop :=
  ∃ A c, e = .returned (.tuple #[.slice A R.1.length c, .int .i64 R.2.1, .int .i64 R.2.2]) ∧ SlW w' B0 A c R.1 ∧ Below w.heap.size w w'
def BitsAll (w : World) (B0 : Nat) (R : List Bool × Int) (e : Ending) (w' : World) : Prop :=
  ∃ A c, e = .returned (.tuple #[.slice A R.1.length c, .int .i64 R.2]) ∧ SlB w' B0 A c R.1 ∧ Below w.heap.size w w'
theorem slw_nil (w : World) (B0 : Nat) : SlW w B0 none 0 [] := ⟨[], rfl, SlOf.nil _ _, fun i p x h => by simp at h⟩

theorem bits26_all (a : Int) (xs ins : List Int) (B0 : Nat) (w : World) (h : fitsP a xs ∧ ins.length = xs.length) {e : Ending} {w' : World} (hb : Bits26 a xs ins w e w') : BitsAll w B0 (bitsR a xs ins) e w' := by
  unfold bitsR
  rw [if_pos h]
  rcases hb with ⟨h1, v, rfl, ho, hb⟩ | ⟨h1, rfl, hb⟩
  · rw [if_pos h1]
    obtain ⟨A, c, rfl, hs⟩ := ho.sl B0
    exact ⟨A, c, rfl, hs, hb⟩
  · rw [if_neg h1]
    exact ⟨none, 0, rfl, SlOf.nil _ _, hb⟩

section
variable (a : Int) (xs ins : List Int) (A A' : Option Addr) (c c' B0 : Nat) (w : World) (hB : B0 ≤ w.heap.size) (hs : SlI w B0 A c xs) (hs' : SlI w B0 A' c' ins)
include hB hs
theorem words_all : Calls Try.prog 29 #[.int .i64 a, .slice A xs.length c] w (WordsAll w B0 (wordsR a xs)) := by
  unfold wordsR
  split
  · rename_i h
    exact words_yes a xs A c B0 w hB h hs
  · rename_i h
    refine (words_no a xs A c B0 w h hs).mono ?_
    rintro e w' ⟨rfl, rfl⟩
    exact ⟨none, 0, rfl, slw_nil _ _, Below.refl _ _⟩
theorem rwords_all : Calls Try.prog 30 #[.int .i64 a, .slice A xs.length c] w (WordsAll w B0 (wordsR a xs)) := by
  unfold wordsR
  split
  · rename_i h
    exact rwords_yes a xs A c B0 w hB h hs
  · rename_i h
    refine (rwords_no a xs A c B0 w h hs).mono ?_
    rintro e w' ⟨rfl, rfl⟩
    exact ⟨none, 0, rfl, slw_nil _ _, Below.refl _ _⟩
include hs'
theorem bits_all : Calls Try.prog 26 #[.int .i64 a, .slice A xs.length c, .slice A' ins.length c'] w (BitsAll w B0 (bitsR a xs ins)) := by
  by_cases h : fitsP a xs ∧ ins.length = xs.length
  · exact (bits_yes a xs ins A A' c c' B0 w hB h.1 h.2 hs hs').mono fun e w' hb => bits26_all a xs ins B0 w h hb
  · refine (bits_no a xs ins A A' c c' B0 w h hs hs').mono ?_
    rintro e w' ⟨rfl, rfl⟩
    unfold bitsR
    rw [if_neg h]
    exact ⟨none, 0, rfl, SlOf.nil _ _, Below.refl _ _⟩
theorem rbits_all : Calls Try.prog 31 #[.int .i64 a, .slice A xs.length c, .slice A' ins.length c'] w (BitsAll w B0 (bitsR a xs ins)) := by
  by_cases h : fitsP a xs ∧ ins.length = xs.length
  · exact (rbits_yes a xs ins A A' c c' B0 w hB h.1 h.2 hs hs').mono fun e w' hb => bits26_all a xs ins B0 w h hb
  · refine (rbits_no a xs ins A A' c c' B0 w h hs hs').mono ?_
    rintro e w' ⟨rfl, rfl⟩
    unfold bitsR
    rw [if_neg h]
    exact ⟨none, 0, rfl, SlOf.nil _ _, Below.refl _ _⟩
end

set_option maxHeartbeats 4000000 in
theorem numbers_walk (a s n : Int) (xs ins : List Int) (bs : List Bool) (A1 A2 A3 : Option Addr) (c1 c2 c3 B0 : Nat) (w : World) (hB : B0 ≤ w.heap.size) (h1 : SlI w B0 A1 c1 xs) (h2 : SlI w B0 A2 c2 ins) (h3 : SlB w B0 A3 c3 bs) :
    Calls Try.prog 4 #[.int .i64 a, .slice A1 xs.length c1, .slice A2 ins.length c2, .int .i64 s, .slice A3 bs.length c3, .int .i64 n] w fun e w' => e = .returned (.bool true) ∧ Below w.heap.size w w' := by
  have hb1 := h1.big
  have hb2 := h2.big
  have hb3 := h3.big
  have H1 := Lib.hid h1
  have H2 := Lib.hid h2
  have H3 := Lib.hid h3
  clear h1 h2 h3
  by_cases hl1 : 40 < xs.length
  · have hl1' : (40 : Int) < xs.length := by omega
    go_enter Try.func4, Try.ntmps4
    go_wp2_with (go_at_call 22; refine (awake_any _).mono ?_; rintro e w1 ⟨rfl, hb1⟩; have HB1 := Lib.hid hb1; clear hb1)
    go_ret
    exact ⟨rfl, HB1.out⟩
  have hd1 : decide ((40 : Int) < xs.length) = false := decide_eq_false (by omega)
  by_cases hl2 : 40 < ins.length
  · have hl2' : (40 : Int) < ins.length := by omega
    go_enter Try.func4, Try.ntmps4
    go_wp2_with (go_at_call 22; refine (awake_any _).mono ?_; rintro e w1 ⟨rfl, hb1⟩; have HB1 := Lib.hid hb1; clear hb1)
    go_ret
    exact ⟨rfl, HB1.out⟩
  have hd2 : decide ((40 : Int) < ins.length) = false := decide_eq_false (by omega)
  by_cases hl3 : 40 < bs.length
  · have hl3' : (40 : Int) < bs.length := by omega
    go_enter Try.func4, Try.ntmps4
    go_wp2_with (go_at_call 22; refine (awake_any _).mono ?_; rintro e w1 ⟨rfl, hb1⟩; have HB1 := Lib.hid hb1; clear hb1)
    go_ret
    exact ⟨rfl, HB1.out⟩
  have hd3 : decide ((40 : Int) < bs.length) = false := decide_eq_false (by omega)
  clear hl1 hl2 hl3
  obtain ⟨R, hR⟩ : ∃ R, wordsR a xs = R := ⟨_, rfl⟩
  obtain ⟨T, hT⟩ : ∃ T, bitsR a xs ins = T := ⟨_, rfl⟩
  obtain ⟨V, hV⟩ : ∃ V, valueF s bs = V := ⟨_, rfl⟩
  obtain ⟨C, hC⟩ : ∃ C, constF a n = C := ⟨_, rfl⟩
  have hRl := wordsR_length a xs
  rw [hR] at hRl
  have HRL := Lib.hid hRl
  have HR := Lib.hid hR
  have HT := Lib.hid hT
  have HV := Lib.hid hV
  have HC := Lib.hid hC
  clear hR hT hV hC hRl
  obtain ⟨ws, k, e0⟩ := R
  obtain ⟨ts, f0⟩ := T
  dsimp only at HRL
  go_enter Try.func4, Try.ntmps4
  go_wp2_with (first
    | (go_at_call 22; refine (awake_any _).mono ?_; rintro e w1 ⟨rfl, hb1⟩; have HB1 := Lib.hid hb1; clear hb1)
    | (go_at_call 29; refine (words_all a xs A1 c1 B0 w1 (Nat.le_trans hB HB1.out.size) (H1.out.below HB1.out)).mono ?_; rw [HR.out]; rintro e w2 ⟨A4, c4, rfl, hs4, hb2⟩; have HB2 : Hid (Below w.heap.size w w2) := HB1.out.trans (hb2.mono HB1.out.size); have HS4 := Lib.hid hs4; clear hs4 hb2 HB1)
    | (go_at_call 30; refine (rwords_all a xs A1 c1 B0 w2 (Nat.le_trans hB HB2.out.size) (H1.out.below HB2.out)).mono ?_; rw [HR.out]; rintro e w3 ⟨A5, c5, rfl, hs5, hb3⟩; have HB3 : Hid (Below w.heap.size w w3) := HB2.out.trans (hb3.mono HB2.out.size); have HS5 := Lib.hid hs5; have HS4' := Lib.hid (HS4.out.below hb3); clear hs5 hb3 HB2 HS4)
    | (go_at_call 26; refine (bits_all a xs ins A1 A2 c1 c2 B0 w3 (Nat.le_trans hB HB3.out.size) (H1.out.below HB3.out) (H2.out.below HB3.out)).mono ?_; rw [HT.out]; rintro e w4 ⟨A6, c6, rfl, hs6, hb4⟩; have HB4 : Hid (Below w.heap.size w w4) := HB3.out.trans (hb4.mono HB3.out.size); have HS6 := Lib.hid hs6; have HS5' := Lib.hid (HS5.out.below hb4); have HS4 := Lib.hid (HS4'.out.below hb4); clear hs6 hb4 HB3 HS4' HS5)
    | (go_at_call 31; refine (rbits_all a xs ins A1 A2 c1 c2 B0 w4 (Nat.le_trans hB HB4.out.size) (H1.out.below HB4.out) (H2.out.below HB4.out)).mono ?_; rw [HT.out]; rintro e w5 ⟨A7, c7, rfl, hs7, hb5⟩; have HB5 : Hid (Below w.heap.size w w5) := HB4.out.trans (hb5.mono HB4.out.size); have HS7 := Lib.hid hs7; have HS6' := Lib.hid (HS6.out.below hb5); have HS5 := Lib.hid (HS5'.out.below hb5); have HS4' := Lib.hid (HS4.out.below hb5); clear hs7 hb5 HB4 HS4 HS5' HS6)
    | (go_at_call 32; refine (lwords_any ws ws A4 A5 c4 c5 B0 w5 (by have := HRL.out; omega) (by have := HRL.out; omega) HS4'.out HS5.out).mono ?_; rintro e w6 ⟨rfl, n6, rfl⟩; rw [show equalWB ws ws = true from decide_eq_true rfl])
    | (go_at_call 28; refine (equalB_any ts ts A6 A7 c6 c7 B0 _ (HS6'.out.drewN _) (HS7.out.drewN _)).mono ?_; rintro e w7 ⟨rfl, n7, rfl⟩; rw [show equalBB ts ts = true from decide_eq_true rfl]; rw [drewN_add])
    | (go_at_call 27; refine (value_any s bs A3 c3 B0 _ ((H3.out.below HB5.out).drewN _)).mono ?_; rintro e w8 ⟨rfl, rfl⟩; rw [HV.out])
    | (go_at_call 33; refine (rvalue_any s bs A3 c3 B0 _ ((H3.out.below HB5.out).drewN _)).mono ?_; rintro e w8 ⟨rfl, rfl⟩; rw [HV.out])
    | (go_at_call 24; refine (Constant_any a n _).mono ?_; rw [HC.out]; rintro e w9 ⟨v9, rfl, ho9, hb9⟩; obtain ⟨A9, c9, rfl, hs9⟩ := ho9.sl B0; have HB9 : Hid (Below w.heap.size w w9) := (below_drewN HB5.out _).trans (hb9.mono HB5.out.size); have HS9 := Lib.hid hs9; clear ho9 hs9 hb9)
    | (go_at_call 35; refine (rconst_any a n _).mono ?_; rw [HC.out]; rintro e w10 ⟨v10, rfl, ho10, hb10⟩; obtain ⟨A10, c10, rfl, hs10⟩ := ho10.sl B0; have HB10 : Hid (Below w.heap.size w w10) := HB9.out.trans (hb10.mono HB9.out.size); have HS10 := Lib.hid hs10; have HS9' := Lib.hid (HS9.out.below hb10); clear ho10 hs10 hb10 HS9 HB9)
    | (go_at_call 34; refine (ints_any C C A9 A10 c9 c10 B0 _ HS9'.out HS10.out).mono ?_; rintro e w11 ⟨rfl, n11, rfl⟩; rw [show equalIB C C = true from decide_eq_true rfl]))
  go_ret
  exact ⟨rfl, below_drewN HB10.out _⟩
end Go.Proofs.Ytgmcajojigedaaa
