/- The walks of the reference's Value, Constant and Ints, and of the law's words. -/
import Derived.Test.YtgmcajojigedaaaEa
import Derived.Test.YtgmcajojigedaaaDa
namespace Go.Proofs.Ytgmcajojigedaaa
open Go.RowKit

theorem wrapW_bit {a : Int} (n : Int) (k : Nat) (h1 : 2 ≤ a) (h2 : a ≤ 8) (hk : (k : Int) < a) : (wrapW a n / 2 ^ k) % 2 = (n / 2 ^ k) % 2 := by
  have hk7 : k = 0 ∨ k = 1 ∨ k = 2 ∨ k = 3 ∨ k = 4 ∨ k = 5 ∨ k = 6 ∨ k = 7 := by omega
  rcases width_cases h1 h2 with rfl | rfl | rfl | rfl | rfl | rfl | rfl <;> rcases hk7 with rfl | rfl | rfl | rfl | rfl | rfl | rfl | rfl <;> first | omega | (unfold wrapW; simp [Int.bmod]; omega)

set_option maxHeartbeats 1000000 in
theorem ints_any (xs ys : List Int) (A1 A2 : Option Addr) (c1 c2 B0 : Nat) (w : World) (h1 : SlI w B0 A1 c1 xs) (h2 : SlI w B0 A2 c2 ys) :
    Calls Try.prog 34 #[.slice A1 xs.length c1, .slice A2 ys.length c2] w (RetDraw (.bool (equalIB xs ys)) w) := by
  have hb1 := h1.big
  have hb2 := h2.big
  have H1 := Lib.hid h1
  have H2 := Lib.hid h2
  clear h1 h2
  by_cases hl : xs.length = ys.length
  · have hd : ((xs.length : Int) != (ys.length : Int)) = false := by simp [hl]
    have HL := Lib.hid hl
    clear hl
    go_enter Try.func34, Try.ntmps34
    go_wp2
    go_loopw [5] (fun i wr => ∃ k : Nat, k ≤ xs.length ∧ i = .int .i64 k ∧ (∀ j, j < k → xs[j]? = ys[j]?) ∧ ∃ n, wr = w.drewN n) (fun i _ => xs.length - (intOf i).toNat)
    case atStart => exact ⟨0, Nat.zero_le _, rfl, fun j h => by omega, 0, rfl⟩
    case round =>
      obtain ⟨k, hk, rfl, hall, n, rfl⟩ := hrel
      by_cases hlt : k < xs.length
      · obtain ⟨b1, o1, x, rfl, hx, hcx⟩ := H1.out.at_ hlt
        obtain ⟨b2, o2, y, rfl, hy, hcy⟩ := H2.out.at_ (k := k) (by have := HL.out; omega)
        have hltI : (k : Int) < (xs.length : Int) := by omega
        have hlt2 : (k : Int) < (ys.length : Int) := by have := HL.out; omega
        have hall' := Lib.hid hall
        have HX := Lib.hid hx
        have HY := Lib.hid hy
        clear hall hx hy
        by_cases hxy : x = y
        · have hne : (x != y) = false := by simp [hxy]
          have HXY := Lib.hid hxy
          clear hxy
          go_wp2
          go_quiet (fail)
          go_wp2
          go_roundw
          case rel => exact ⟨k + 1, by omega, by go_num, fun j hj => by
            rcases Nat.lt_succ_iff_lt_or_eq.1 hj with h | rfl
            · exact hall'.out j h
            · rw [HX.out, HY.out, HXY.out], _, rfl⟩
          case measure => simp [intOf]; omega
        · have hne : (x != y) = true := by simp [hxy]
          have hfin : equalIB xs ys = false := decide_eq_false fun h => by
            have e1 := HX.out
            rw [h, HY.out] at e1
            exact hxy (by cases e1; rfl)
          have HF := Lib.hid hfin
          clear hxy hfin
          go_wp2
          go_quiet (fail)
          go_wp2
          go_ret
          exact ⟨by rw [HF.out]; rfl, _, World.drewN_drewN _ _ _⟩
      · have hfin : equalIB xs ys = true := decide_eq_true (List.ext_getElem? fun j => by
          by_cases hj : j < k
          · exact hall j hj
          · have := HL.out
            rw [List.getElem?_eq_none (by omega), List.getElem?_eq_none (by omega)])
        have HF := Lib.hid hfin
        clear hfin hall
        go_wp2
        go_ret
        exact ⟨by rw [HF.out]; rfl, _, rfl⟩
  · have hd : ((xs.length : Int) != (ys.length : Int)) = true := by rw [bne_iff_ne]; omega
    have hfin : equalIB xs ys = false := decide_eq_false fun h => hl (by rw [h])
    have HF := Lib.hid hfin
    clear hl hfin
    go_enter Try.func34, Try.ntmps34
    go_wp2
    go_ret
    exact ⟨by rw [HF.out]; rfl, 0, rfl⟩

set_option maxHeartbeats 1000000 in
theorem rconst_any (a n : Int) (w : World) : Calls Try.prog 35 #[.int .i64 a, .int .i64 n] w (RetOwnI w (constF a n)) := by
  by_cases h : 2 ≤ a ∧ a ≤ 8
  · obtain ⟨h1, h2⟩ := h
    have HC : Hid (constF a n = bitsI a.toNat n) := constF_in n h1 h2
    obtain ⟨q, rfl⟩ := Int.eq_ofNat_of_zero_le (show 0 ≤ a by omega)
    have HW : Hid (∀ k : Nat, k < q → (wrapW q n / 2 ^ k) % 2 = (n / 2 ^ k) % 2) := fun k hk => wrapW_bit n k h1 h2 (by omega)
    obtain ⟨y, hy⟩ : ∃ y, wrapW q n = y := ⟨_, rfl⟩
    have HY := Lib.hid hy
    rw [hy] at HW
    clear hy
    go_enter Try.func35, Try.ntmps35
    go_wp2_with (first
      | (go_at_call 23; refine (isWidth_yes _ _ h1 h2).mono ?_; rintro e w2 ⟨rfl, rfl⟩)
      | (go_at_call 98; refine (rwrap_any _ _ _).mono ?_; rintro e w2 ⟨rfl, rfl⟩; rw [HY.out]))
    go_loopw [5, 6] (fun v i wr => ∃ k : Nat, k ≤ q ∧ i = .int .i64 k ∧ OwnI wr w.heap.size v (bitsI k n) ∧ Below w.heap.size w wr) (fun _ i _ => q - (intOf i).toNat)
    case atStart => exact ⟨0, Nat.zero_le _, rfl, own_new (Value.int .i64) 3 w _ (Nat.le_refl _) [] (by simp), below_alloc _ _⟩
    case round =>
      obtain ⟨k, hk, rfl, hown, hb⟩ := hrel
      by_cases hlt : k < q
      · have hlen : (bitsI k n).length ≤ 60 := by rw [bitsI_length]; omega
        have hbit := HW.out k hlt
        have htm := tmod_two (y / 2 ^ k)
        rw [hbit] at htm
        have hd : (n / 2 ^ k) % 2 = 0 ∨ (n / 2 ^ k) % 2 = 1 := by omega
        rcases hd with hd | hd
        all_goals
          have HN : Hid (bitsI (k + 1) n = bitsI k n ++ [(n / 2 ^ k) % 2]) := bitsI_succ k n
          rw [hd] at htm HN
          have htm' : ((y / 2 ^ k).tmod 2 != 0) = _ := htm
          clear htm hbit hd
          go_wp2_with (at_builtin; go_must (refine app1 (Value.int .i64) oneInt 24 3 8 Try.underlying24 Try.info3 rfl rfl _ _ rfl _ _ _ _ hown rfl rfl ?_ ?_ ?_ ?_))
          · omega
          · omega
          · exact hb.size
          intro v' w1 hown1 hgr1
          rw [← HN.out] at hown1
          have hb2 := hb.grown hgr1 hb.size (fun j hj => (hown.lt j hj).1)
          clear hown hb hgr1 hlen htm'
          go_wp2
          go_roundw
          case rel => exact ⟨k + 1, by omega, by go_num, hown1, hb2⟩
          case measure => simp [intOf]; omega
      · obtain rfl : k = q := by omega
        go_wp2
        go_ret
        exact ⟨_, rfl, by rw [HC.out]; exact hown, hb⟩
  · have hno : a < 2 ∨ 8 < a := by omega
    have HC : Hid (constF a n = []) := if_neg h
    clear h
    go_enter Try.func35, Try.ntmps35
    go_wp2_with (go_at_call 23; refine (isWidth_no _ _ hno).mono ?_; rintro e w2 ⟨rfl, rfl⟩)
    go_ret
    exact ⟨_, rfl, by rw [HC.out]; exact own_new (Value.int .i64) 3 w _ (Nat.le_refl _) [] (by simp), below_alloc _ _⟩

theorem valueF_int {bs : List Bool} (h1 : 1 ≤ bs.length) (h8 : bs.length ≤ 8) {k : Nat} {x : Bool} (hk : k + 1 = bs.length) (hx : bs[k]? = some x) : valueF 0 bs = valU (bs.take k) - 2 ^ k * b01 x := by
  unfold valueF
  have hl : (bs.take k).length = k := by rw [List.length_take]; omega
  have e : bs = bs.take k ++ [x] := by
    have : bs.take (k + 1) = bs.take k ++ [x] := by rw [List.take_add_one, hx]; rfl
    rw [← this, hk, List.take_length]
  rw [if_neg (by omega), if_pos ⟨rfl, h1, h8⟩]
  have e2 : valU bs = valU (bs.take k) + 2 ^ k * b01 x := by conv => lhs; rw [e, valU_snoc, hl]
  have e3 : bs.getLast? = some x := by rw [e]; simp
  rw [e2, e3, ← hk, Int.pow_succ]
  cases x <;> simp [b01]; omega

set_option maxHeartbeats 1000000 in
theorem rvalue_int (bs : List Bool) (A : Option Addr) (c B0 : Nat) (w : World) (h1 : 1 ≤ bs.length) (h8 : bs.length ≤ 8) (hs : SlB w B0 A c bs) :
    Calls Try.prog 33 #[.int .i64 0, .slice A bs.length c] w fun e w' => e = .returned (.int .i64 (valueF 0 bs)) ∧ w = w' := by
  have hd1 : decide ((bs.length : Int) < 1) = false := decide_eq_false (by omega)
  have hd2 : decide (8 < (bs.length : Int)) = false := decide_eq_false (by omega)
  have HS := Lib.hid hs
  clear hs
  go_enter Try.func33, Try.ntmps33
  go_wp2
  go_loop [5, 6] (fun v i => ∃ k : Nat, k ≤ bs.length ∧ i = .int .i64 k ∧ v = .int .i64 (if k = bs.length then valueF 0 bs else valU (bs.take k))) (fun _ i => bs.length - (intOf i).toNat)
  case atStart => exact ⟨0, Nat.zero_le _, rfl, by rw [if_neg (by omega)]; rfl⟩
  case round =>
    obtain ⟨k, hk, rfl, rfl⟩ := hrel
    by_cases hlt : k < bs.length
    · obtain ⟨b, o, x, rfl, hx, hc⟩ := HS.out.at_ hlt
      rw [if_neg (by omega)]
      have hl : (bs.take k).length = k := by rw [List.length_take]; omega
      have h0 := valU_nonneg (bs.take k)
      have hb := valU_lt (bs.take k)
      rw [hl] at hb
      have hp1 : (2 : Int) ^ k ≤ 256 := by
        have : (2 : Nat) ^ k ≤ 2 ^ 8 := Nat.pow_le_pow_right (by omega) (by omega)
        have hpi : ((2 ^ k : Nat) : Int) = 2 ^ k := by simp
        omega
      have hp0 : (0 : Int) < 2 ^ k := Int.pow_pos (by omega)
      have hsn : valU (bs.take (k + 1)) = valU (bs.take k) + 2 ^ k * b01 x := by
        have : bs.take (k + 1) = bs.take k ++ [x] := by rw [List.take_add_one, hx]; rfl
        rw [this, valU_snoc, hl]
      by_cases hlast : k + 1 = bs.length
      · have HV := Lib.hid (valueF_int h1 h8 hlast hx)
        have heq : ((k : Int) == (bs.length : Int) - 1) = true := by rw [beq_iff_eq]; omega
        have HL := Lib.hid hlast
        clear hx hsn hl hlast
        cases x
        all_goals
          go_wp2
          go_round
          case rel => exact ⟨k + 1, by omega, by go_num, by rw [if_pos HL.out, HV.out]; simp [b01]⟩
          case measure => simp [intOf]; omega
      · have heq : ((k : Int) == (bs.length : Int) - 1) = false := by rw [beq_eq_false_iff_ne]; omega
        have HL := Lib.hid hlast
        have HN := Lib.hid hsn
        clear hx hsn hl hlast
        cases x
        all_goals
          go_wp2
          go_round
          case rel => exact ⟨k + 1, by omega, by go_num, by rw [if_neg HL.out, HN.out]; simp [b01]⟩
          case measure => simp [intOf]; omega
    · obtain rfl : k = bs.length := by omega
      rw [if_pos rfl]
      go_wp2
      go_ret
      exact ⟨rfl, rfl⟩

theorem rvalue_bool (bs : List Bool) (A : Option Addr) (c B0 : Nat) (w : World) (h1 : bs.length = 1) (hs : SlB w B0 A c bs) :
    Calls Try.prog 33 #[.int .i64 1, .slice A bs.length c] w fun e w' => e = .returned (.int .i64 (valueF 1 bs)) ∧ w = w' := by
  obtain ⟨x, rfl⟩ : ∃ x, bs = [x] := by
    match bs, h1 with
    | [x], _ => exact ⟨x, rfl⟩
  obtain ⟨b, o, y, rfl, hx, hc⟩ := hs.at_ (k := 0) (by simp)
  have hc' : w.cell? ⟨b, o, none⟩ = some (.bool x) := by simp at hx; subst hx; exact hc
  clear hc hx hs h1
  cases x
  all_goals
    go_enter Try.func33, Try.ntmps33
    go_wp2
    go_ret
    exact ⟨rfl, rfl⟩

theorem rvalue_out (s : Int) (bs : List Bool) (A : Option Addr) (c B0 : Nat) (w : World) (h : ¬ (s = 1 ∧ bs.length = 1) ∧ ¬ (s = 0 ∧ 1 ≤ bs.length ∧ bs.length ≤ 8)) (hs : SlB w B0 A c bs) :
    Calls Try.prog 33 #[.int .i64 s, .slice A bs.length c] w fun e w' => e = .returned (.int .i64 (valueF s bs)) ∧ w = w' := by
  have hbig := hs.big
  have hv : valueF s bs = 0 := by unfold valueF; rw [if_neg h.1, if_neg h.2]
  rw [hv]
  clear hv
  obtain ⟨n, hn⟩ : ∃ n, n = bs.length := ⟨_, rfl⟩
  rw [← hn] at h hbig ⊢
  clear hn hs
  by_cases h1 : s = 1
  · subst h1
    have hne : ((n : Int) == 1) = false := by rw [beq_eq_false_iff_ne]; omega
    clear h
    go_enter Try.func33, Try.ntmps33
    go_wp2
    go_ret
    exact ⟨rfl, rfl⟩
  · have e1 : (s == 1) = false := by simp [h1]
    by_cases h0 : s = 0
    · subst h0
      by_cases hlt : n < 1
      · have hlt' : (n : Int) < 1 := by omega
        clear h h1
        go_enter Try.func33, Try.ntmps33
        go_wp2
        go_ret
        exact ⟨rfl, rfl⟩
      · have hlt' : decide ((n : Int) < 1) = false := decide_eq_false (by omega)
        have hgt : 8 < (n : Int) := by omega
        clear h h1 hlt
        go_enter Try.func33, Try.ntmps33
        go_wp2
        go_ret
        exact ⟨rfl, rfl⟩
    · have e0 : (s != 0) = true := by simp [h0]
      clear h h0 h1
      go_enter Try.func33, Try.ntmps33
      go_wp2
      go_ret
      exact ⟨rfl, rfl⟩

theorem rvalue_any (s : Int) (bs : List Bool) (A : Option Addr) (c B0 : Nat) (w : World) (hs : SlB w B0 A c bs) :
    Calls Try.prog 33 #[.int .i64 s, .slice A bs.length c] w fun e w' => e = .returned (.int .i64 (valueF s bs)) ∧ w = w' := by
  by_cases h1 : s = 1 ∧ bs.length = 1
  · obtain ⟨rfl, h⟩ := h1
    exact rvalue_bool bs A c B0 w h hs
  by_cases h2 : s = 0 ∧ 1 ≤ bs.length ∧ bs.length ≤ 8
  · obtain ⟨rfl, h3, h4⟩ := h2
    exact rvalue_int bs A c B0 w h3 h4 hs
  · exact rvalue_out s bs A c B0 w ⟨h1, h2⟩ hs
end Go.Proofs.Ytgmcajojigedaaa
