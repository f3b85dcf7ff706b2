/- The walk of the law BlastReads. -/
import Derived.Test.YtgmcajojigedaaaCa
set_option linter.unusedSimpArgs false
set_option linter.unusedVariables false
namespace Go.Proofs.Ytgmcajojigedaaa
open Go.RowKit

theorem valU_bitsOf (n : Int) : ∀ k : Nat, valU (bitsOf n k) = n % 2 ^ k
  | 0 => by simp [bitsOf, valU, Int.emod_one]
  | k + 1 => by
    rw [bitsOf_succ, valU_snoc, bitsOf_length, valU_bitsOf n k]
    have hP : (0 : Int) < 2 ^ k := Int.pow_pos (by omega)
    rw [Int.pow_succ]
    generalize (2 : Int) ^ k = P at hP ⊢
    have h1 := Int.mul_ediv_add_emod n P
    have h2 := Int.emod_nonneg n (show P ≠ 0 by omega)
    have h3 := Int.emod_lt_of_pos n hP
    obtain ⟨q, hq⟩ : ∃ q, n / P = q := ⟨_, rfl⟩
    obtain ⟨r, hr⟩ : ∃ r, n % P = r := ⟨_, rfl⟩
    rw [hq] at h1 ⊢
    rw [hr] at h1 h2 h3 ⊢
    have h4 := Int.mul_ediv_add_emod q 2
    have hb : q % 2 = 0 ∨ q % 2 = 1 := by omega
    have e : n = (r + P * (q % 2)) + (P * 2) * (q / 2) := by
      have : P * q = P * (2 * (q / 2) + q % 2) := by rw [h4]
      rw [Int.mul_add] at this
      have e2 : P * 2 * (q / 2) = P * (2 * (q / 2)) := Int.mul_assoc _ _ _
      omega
    have e3 : b01 (q % 2 == 1) = q % 2 := by
      rcases hb with h | h <;> rw [h] <;> rfl
    rw [e3]
    have hlt : r + P * (q % 2) < P * 2 := by rcases hb with h | h <;> rw [h] <;> omega
    have hge : 0 ≤ r + P * (q % 2) := by rcases hb with h | h <;> rw [h] <;> omega
    conv => rhs; rw [e]
    rw [Int.add_mul_emod_self_left, Int.emod_eq_of_lt hge hlt]

/-- An integer of a width. -/
def inW (a n : Int) : Prop := 2 ≤ a ∧ a ≤ 8 ∧ -(2 ^ (a.toNat - 1)) ≤ n ∧ n < 2 ^ (a.toNat - 1)
theorem wrapW_in {a : Int} (n : Int) (h1 : 2 ≤ a) (h2 : a ≤ 8) : inW a (wrapW a n) := by
  rcases width_cases h1 h2 with rfl | rfl | rfl | rfl | rfl | rfl | rfl <;> (unfold inW wrapW; simp [Int.bmod]; omega)
theorem wrapW_of_in {a n : Int} (h : inW a n) : wrapW a n = n := by
  obtain ⟨h1, h2, h3, h4⟩ := h
  rcases width_cases h1 h2 with rfl | rfl | rfl | rfl | rfl | rfl | rfl <;> (unfold wrapW; simp [Int.bmod] at *; omega)
theorem valueF_bitsOf {a n : Int} (h : inW a n) : valueF 0 (bitsOf n a.toNat) = n := by
  have h1 := h.1
  have h2 := h.2.1
  unfold valueF
  rw [if_neg (by omega), if_pos (by rw [bitsOf_length]; omega), valU_bitsOf, bitsOf_length]
  obtain ⟨k, hk⟩ : ∃ k, a.toNat = k + 1 := ⟨a.toNat - 1, by omega⟩
  have hl : (bitsOf n a.toNat).getLast? = some ((n / 2 ^ k) % 2 == 1) := by rw [hk, bitsOf_succ]; simp
  rw [hl]
  obtain ⟨_, _, h3, h4⟩ := h
  have hka : k = 1 ∨ k = 2 ∨ k = 3 ∨ k = 4 ∨ k = 5 ∨ k = 6 ∨ k = 7 := by omega
  rw [hk] at h3 h4 ⊢
  rcases hka with rfl | rfl | rfl | rfl | rfl | rfl | rfl <;> (simp at h3 h4 ⊢; split <;> omega)
theorem bitsI_eq_bitsOf (n : Int) (k : Nat) : (bitsI k n).map (fun x => x == 1) = bitsOf n k := by
  unfold bitsI bitsOf; rw [List.map_map]; rfl
theorem constF_in {a : Int} (n : Int) (h1 : 2 ≤ a) (h2 : a ≤ 8) : constF a n = bitsI a.toNat n := if_pos ⟨h1, h2⟩

theorem bits_one (a n : Int) (A A' : Option Addr) (B0 : Nat) (w : World) (hB : B0 ≤ w.heap.size) (h1 : 2 ≤ a) (h2 : a ≤ 8) (hn : wrapW a n = n) (hs : SlI w B0 A 1 [0]) (hs' : SlI w B0 A' 1 [n]) :
    Calls Try.prog 26 #[.int .i64 a, .slice A 1 1, .slice A' 1 1] w fun e w' => ∃ A c, e = .returned (.tuple #[.slice A (bitsOf n a.toNat).length c, .int .i64 0]) ∧ SlB w' B0 A c (bitsOf n a.toNat) ∧ Below w.heap.size w w' := by
  refine (bits_yes a [0] [n] A A' 1 1 B0 w hB ⟨h1, h2, by simp, by simp [isSort]⟩ rfl hs hs').mono ?_
  rintro e w' (⟨_, v, rfl, h1, h2⟩ | ⟨h, _⟩)
  · have e1 : bitsF a [0] [n] ([0] : List Int).length = bitsOf n a.toNat := by simp [bitsF, szN, sizeF]
    rw [e1] at h1
    obtain ⟨A, c, rfl, hs⟩ := h1.sl B0
    exact ⟨A, c, rfl, hs, h2⟩
  · refine absurd (fun j x y hj hx hy => ?_) h
    match j with
    | 0 => simp at hx hy; subst hx hy; exact .inl ⟨rfl, hn⟩
    | j + 1 => simp at hj

set_option maxHeartbeats 4000000 in
theorem reads_walk (a n : Int) (w : World) : Calls Try.prog 3 #[.int .i64 a, .int .i64 n] w fun e w' => e = .returned (.bool true) ∧ Below w.heap.size w w' := by
  by_cases h : 2 ≤ a ∧ a ≤ 8
  · obtain ⟨h1, h2⟩ := h
    obtain ⟨y, hy⟩ : ∃ y, wrapW a n = y := ⟨_, rfl⟩
    have hin : inW a y := by rw [← hy]; exact wrapW_in n h1 h2
    have hyy := wrapW_of_in hin
    have hv := valueF_bitsOf hin
    obtain ⟨q, rfl⟩ := Int.eq_ofNat_of_zero_le (show 0 ≤ a by omega)
    simp only [Int.toNat_natCast] at hv
    have hc := constF_in (a := q) y h1 h2
    simp only [Int.toNat_natCast] at hc
    have hm := bitsI_eq_bitsOf y q
    obtain ⟨bs, hbs⟩ : ∃ bs, bitsOf y q = bs := ⟨_, rfl⟩
    obtain ⟨cs, hcs⟩ : ∃ cs, bitsI q y = cs := ⟨_, rfl⟩
    have hbl : bs.length = q := by rw [← hbs, bitsOf_length]
    have hcl : cs.length = q := by rw [← hcs, bitsI_length]
    rw [hbs] at hv hm
    rw [hcs] at hc hm
    have hbl' : ((bs.length : Int) == (q : Int)) = true := by rw [hbl]; exact beq_self_eq_true _
    have HY := Lib.hid hy
    have HYY := Lib.hid hyy
    have HV := Lib.hid hv
    have HC := Lib.hid hc
    have HM := Lib.hid hm
    have HBS := Lib.hid hbs
    have hq8 : q ≤ 8 := by omega
    have HBL := Lib.hid hbl
    have HCL := Lib.hid hcl
    have hcl8 : cs.length ≤ 8 := by omega
    clear hin hy hyy hv hc hm hbs hcs hbl hcl
    go_enter Try.func3, Try.ntmps3
    go_wp2_with (first
      | (go_at_call 22; refine (awake_any _).mono ?_; rintro e w1 ⟨rfl, hb1⟩; have HB1 := Lib.hid hb1; clear hb1)
      | (go_at_call 23; refine (isWidth_yes _ _ h1 h2).mono ?_; rintro e w2 ⟨rfl, rfl⟩)
      | (go_at_call 25; refine (wrap_any _ _ _).mono ?_; rintro e w2 ⟨rfl, rfl⟩; rw [HY.out])
      | (go_at_call 26; have h2 := two_new w1 w.heap.size [0] [y] (by simp) (by simp); refine (bits_one q y _ _ w.heap.size _ (by have := HB1.out.size; simp; omega) (by omega) (by omega) HYY.out h2.1 h2.2).mono ?_; clear h2; rintro e w2 ⟨A2, c2, rfl, hs2, hb2⟩; rw [Int.toNat_natCast, HBS.out] at hs2 ⊢; have hb2' := below_of2 hb2; have HB2 : Hid (Below w.heap.size w w2) := HB1.out.trans (hb2'.mono HB1.out.size); have HS2 := Lib.hid hs2; clear hs2 hb2 hb2' HB1)
      | (go_at_call 24; refine (Constant_any _ _ _).mono ?_; rintro e w3 ⟨v3, rfl, ho3, hb3⟩; rw [HC.out] at ho3; obtain ⟨A3, c3, rfl, hs3⟩ := ho3.sl w.heap.size; have HB3 : Hid (Below w.heap.size w w3) := HB2.out.trans (hb3.mono HB2.out.size); have HS3 := Lib.hid (HS2.out.below hb3); have HC3 := Lib.hid hs3; clear ho3 hs3 hb3 HB2 HS2))
    go_loopw [7, 9, 35] (fun v _ i wr => ∃ k : Nat, k ≤ cs.length ∧ i = .int .i64 k ∧ OwnB wr w3.heap.size v ((cs.map (fun x => x == 1)).take k) ∧ Below w3.heap.size w3 wr) (fun _ _ i _ => cs.length - (intOf i).toNat)
    case atStart => exact ⟨0, Nat.zero_le _, rfl, OwnOf.nil _ _, Below.refl _ _⟩
    case round =>
      obtain ⟨k, hk, rfl, hown, hb⟩ := hrel
      by_cases hlt : k < cs.length
      · obtain ⟨b, o, x, rfl, hxk, hc⟩ := (HC3.out.below hb).at_ hlt
        have hlen : ((cs.map (fun x => x == 1)).take k).length ≤ 100 := by simp; omega
        have hnext : Hid ((cs.map (fun x => x == 1)).take k ++ [x == 1] = (cs.map (fun x => x == 1)).take (k + 1)) := by
          show _ = _; rw [List.take_add_one, List.getElem?_map, hxk]; rfl
        clear hxk
        go_wp2_with (at_builtin; go_must (refine app1 Value.bool oneBool 27 4 1 Try.underlying27 Try.info4 rfl rfl _ _ rfl _ _ _ _ hown rfl rfl ?_ ?_ ?_ ?_))
        · omega
        · omega
        · exact hb.size
        intro v' w4 hown4 hgr4
        rw [hnext.out] at hown4
        have hb4 := hb.grown hgr4 hb.size (fun j hj => (hown.lt j hj).1)
        clear hown hb hgr4 hlen hc
        go_wp2
        go_roundw
        case rel => exact ⟨k + 1, by omega, by go_num, hown4, hb4⟩
        case measure => simp [intOf]; omega
      · obtain rfl : k = cs.length := by omega
        rw [List.take_of_length_le (by simp), HM.out] at hown
        rename_i wr
        obtain ⟨A5, c5, hv5, hs5⟩ := hown.sl w.heap.size
        subst hv5
        have HS5 := Lib.hid hs5
        have HB5 := Lib.hid hb
        clear hown hb hs5 hlt hk
        go_wp2_with (first
          | (go_at_call 27; refine (value_any 0 bs A2 c2 w.heap.size _ (HS3.out.below HB5.out)).mono ?_; rintro e w12 ⟨rfl, rfl⟩; rw [HV.out])
          | (go_at_call 28; refine (equalB_any bs bs A2 A5 c2 c5 w.heap.size _ (HS3.out.below HB5.out) HS5.out).mono ?_; rintro e w9 ⟨rfl, nn, rfl⟩; rw [show equalBB bs bs = true from decide_eq_true rfl]))
        go_ret
        exact ⟨rfl, below_drewN (HB3.out.trans (HB5.out.mono HB3.out.size)) _⟩
  · have hno : a < 2 ∨ 8 < a := by omega
    have hc : constF a n = [] := if_neg h
    have HC := Lib.hid hc
    clear hc h
    go_enter Try.func3, Try.ntmps3
    go_wp2_with (first
      | (go_at_call 22; refine (awake_any _).mono ?_; rintro e w1 ⟨rfl, hb1⟩; have HB1 := Lib.hid hb1; clear hb1)
      | (go_at_call 23; refine (isWidth_no _ _ hno).mono ?_; rintro e w2 ⟨rfl, rfl⟩)
      | (go_at_call 24; refine (Constant_any _ _ _).mono ?_; rintro e w3 ⟨v3, rfl, ho3, hb3⟩; rw [HC.out] at ho3; obtain ⟨A3, c3, rfl, hs3⟩ := ho3.sl w.heap.size; have HB3 : Hid (Below w.heap.size w w3) := HB1.out.trans (hb3.mono HB1.out.size); clear ho3 hs3 hb3 HB1))
    go_ret
    exact ⟨rfl, HB3.out⟩
end Go.Proofs.Ytgmcajojigedaaa
