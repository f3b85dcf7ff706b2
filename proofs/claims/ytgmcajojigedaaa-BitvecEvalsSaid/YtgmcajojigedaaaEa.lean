/- The walks of the reference's IsSorts, Words and Bits. The walks of the reference's Value, Constant and Ints, and of the law's words. -/
import Derived.Test.YtgmcajojigedaaaCa
import Derived.Test.YtgmcajojigedaaaDa
set_option linter.unusedSimpArgs false
set_option linter.unusedVariables false
namespace Go.Proofs.Ytgmcajojigedaaa
open Go.RowKit

set_option maxHeartbeats 1000000 in
theorem isSorts_any (a : Int) (xs : List Int) (A : Option Addr) (c B0 : Nat) (w : World) (hs : SlI w B0 A c xs) :
    Calls Try.prog 97 #[.int .i64 a, .slice A xs.length c] w fun e w' => e = .returned (.bool (fitsB a xs)) ∧ w = w' := by
  have hbig := hs.big
  have HS := Lib.hid hs
  clear hs
  go_enter Try.func97, Try.ntmps97
  go_wp2
  go_loop [5] (fun i => ∃ k : Nat, k ≤ xs.length ∧ i = .int .i64 k ∧ ∀ j x, j < k → xs[j]? = some x → isSort x) (fun i => xs.length - (intOf i).toNat)
  case atStart => exact ⟨0, Nat.zero_le _, rfl, fun j x h => by omega⟩
  case round =>
    obtain ⟨k, hk, rfl, hall⟩ := hrel
    by_cases hlt : k < xs.length
    · obtain ⟨b, o, x, rfl, hx, hc⟩ := HS.out.at_ hlt
      have HX := Lib.hid hx
      have HALL := Lib.hid hall
      clear hx hall
      by_cases hz : isSort x
      · have HZ := Lib.hid hz
        rcases hz with rfl | rfl
        all_goals
          go_wp2
          go_round
          case rel => exact ⟨k + 1, by omega, by go_num, fun j y hj hy => by
            rcases Nat.lt_succ_iff_lt_or_eq.1 hj with h | rfl
            · exact HALL.out j y h hy
            · rw [HX.out] at hy; cases hy; exact HZ.out⟩
          case measure => simp [intOf]; omega
      · have hn0 : (x != 0) = true := by rw [bne_iff_ne]; intro h; exact hz (.inl h)
        have hn1 : (x != 1) = true := by rw [bne_iff_ne]; intro h; exact hz (.inr h)
        have hf : Hid (fitsB a xs = false) := fitsB_no fun h => hz (h.2.2.2 x (List.mem_of_getElem? HX.out))
        clear hz
        go_wp2
        go_ret
        exact ⟨by rw [hf.out]; rfl, rfl⟩
    · obtain rfl : k = xs.length := by omega
      have hA : ∀ x ∈ xs, isSort x := fun x hx => by
        obtain ⟨j, hj⟩ := List.getElem?_of_mem hx
        exact hall j x (List.getElem?_eq_some_iff.1 hj).1 hj
      by_cases hw : 2 ≤ a ∧ a ≤ 8
      · by_cases hl : xs.length ≤ 24
        · have hf : Hid (fitsB a xs = true) := fitsB_yes ⟨hw.1, hw.2, hl, hA⟩
          have hl' : (xs.length : Int) ≤ 24 := by omega
          have HW := Lib.hid hw
          clear hA hall hw hl hlt hk
          go_wp2_with (go_at_call 23; refine (isWidth_yes _ _ HW.out.1 HW.out.2).mono ?_; rintro e w' ⟨rfl, rfl⟩)
          go_ret
          exact ⟨by rw [hf.out]; rfl, rfl⟩
        · have hf : Hid (fitsB a xs = false) := fitsB_no fun h => hl h.2.2.1
          have hl' : decide ((xs.length : Int) ≤ 24) = false := decide_eq_false (by omega)
          have HW := Lib.hid hw
          clear hA hall hw hl hlt hk
          go_wp2_with (go_at_call 23; refine (isWidth_yes _ _ HW.out.1 HW.out.2).mono ?_; rintro e w' ⟨rfl, rfl⟩)
          go_ret
          exact ⟨by rw [hf.out]; rfl, rfl⟩
      · have hf : Hid (fitsB a xs = false) := fitsB_no fun h => hw ⟨h.1, h.2.1⟩
        have HW : Hid (a < 2 ∨ 8 < a) := by show _ ∨ _; omega
        clear hA hall hw hlt hk
        go_wp2_with (go_at_call 23; refine (isWidth_no _ _ HW.out).mono ?_; rintro e w' ⟨rfl, rfl⟩)
        go_ret
        exact ⟨by rw [hf.out]; rfl, rfl⟩

theorem ownW_new (w : World) (B0 B : Nat) (hB : B ≤ w.heap.size) : OwnW (w.alloc (.cells #[] 24)) B0 B (.slice (some ⟨w.heap.size, 0, none⟩) 0 0) [] :=
  ⟨[], rfl, own_new slV 24 w B hB [] (by simp), fun i p x h => by simp at h⟩

set_option maxHeartbeats 2000000 in
theorem rwords_yes (a : Int) (xs : List Int) (A : Option Addr) (c B0 : Nat) (w : World) (hB : B0 ≤ w.heap.size) (hf : fitsP a xs) (hs : SlI w B0 A c xs) :
    Calls Try.prog 30 #[.int .i64 a, .slice A xs.length c] w (WordsRet w B0 (wordsF a xs xs.length) (posN a xs xs.length)) := by
  obtain ⟨d, rfl⟩ : ∃ d : Nat, a = d := Int.eq_ofNat_of_zero_le (show 0 ≤ a by have := hf.1; omega)
  have e1 : fitsB d xs = true := fitsB_yes hf
  have h1 := hf.1
  have h2 := hf.2.1
  have h3 := hf.2.2.1
  have HA := Lib.hid hf.2.2.2
  have HP := Lib.hid (posN_le h1 h2 xs)
  have HS := Lib.hid hs
  clear hf hs
  go_enter Try.func30, Try.ntmps30
  go_wp2_with (go_at_call 97; refine (isSorts_any _ _ _ _ _ _ HS.out).mono ?_; rintro e w' ⟨rfl, rfl⟩)
  go_loopw [7, 8, 9, 10, 11, 12] (fun v n i _ _ _ wr => ∃ k : Nat, k ≤ xs.length ∧ i = .int .i64 k ∧ n = .int .i64 (posN d xs k) ∧ OwnW wr B0 w.heap.size v (wordsF d xs k) ∧ Below w.heap.size w wr) (fun _ _ i _ _ _ _ => xs.length - (intOf i).toNat)
  case atStart => exact ⟨0, Nat.zero_le _, rfl, rfl, ownW_new _ _ _ (Nat.le_refl _), below_alloc _ _⟩
  case round =>
    obtain ⟨k, hk, rfl, rfl, hown, hb⟩ := hrel
    by_cases hlt : k < xs.length
    · obtain ⟨b, o, x, rfl, hx, hc⟩ := (HS.out.below hb).at_ hlt
      have hpk := HP.out k hk
      have hsort := HA.out x (List.mem_of_getElem? hx)
      have hsz := szN_cast (s := x) h1 h2
      have hle := szN_le (s := x) h1 h2
      have HSZ := Lib.hid hsz
      have HX := Lib.hid hx
      clear hsz hx
      obtain ⟨p, hp⟩ : ∃ p, p = posN d xs k := ⟨_, rfl⟩
      rw [← hp] at hpk
      simp only [← hp]
      have HPk := Lib.hid hp
      clear hp
      obtain ⟨q, hq⟩ : ∃ q, q = szN d x := ⟨_, rfl⟩
      rw [← hq] at hle HSZ
      have HQ := Lib.hid hq
      have hqa : (x = 0 ∧ d = q) ∨ (x = 1 ∧ q = 1) := by
        have := HSZ.out
        rcases hsort with rfl | rfl
        · exact .inl ⟨rfl, by simp [sizeF] at this; omega⟩
        · exact .inr ⟨rfl, by simp [sizeF] at this; omega⟩
      clear hq hsort
      obtain ⟨wo, rfl⟩ : ∃ wo : World, wo = wr := ⟨_, rfl⟩
      rcases hqa with ⟨rfl, rfl⟩ | ⟨rfl, rfl⟩
      · have hc2 := (World.cell?_alloc_lt wo (.cells #[] 3) _ (cell_lt hc)).trans hc
        go_wp2
        go_loopw [8, 10, 12] (fun n v i wr => ∃ j : Nat, j ≤ d ∧ i = .int .i64 j ∧ n = .int .i64 ((p + j : Nat) : Int) ∧ OwnI wr wo.heap.size v (wordN p j) ∧ Below wo.heap.size wo wr) (fun _ _ i _ => d - (intOf i).toNat)
        case atStart => exact ⟨0, Nat.zero_le _, rfl, rfl, own_new (Value.int .i64) 3 wo _ (Nat.le_refl _) [] (by simp), below_alloc _ _⟩
        case round =>
          obtain ⟨j, hj, rfl, rfl, hw, hbi⟩ := hrel
          have hl := wordN_length p j
          by_cases hjq : j < d
          · have hlj : (wordN p j).length ≤ 8 := by omega
            clear hl
            go_wp2_with (at_builtin; refine app1 (Value.int .i64) oneInt 24 3 8 Try.underlying24 Try.info3 rfl rfl _ _ rfl _ _ _ _ hw rfl rfl ?_ ?_ ?_ ?_)
            · omega
            · omega
            · exact hbi.size
            intro v' w1 hown1 hgr1
            have hb2 := hbi.grown hgr1 hbi.size (fun j hj => (hw.lt j hj).1)
            clear hw hbi hgr1 hlj
            go_wp2
            go_roundw
            case rel => exact ⟨j + 1, by omega, by go_num, by go_num, by rw [wordN_succ]; simpa using hown1, hb2⟩
            case measure => simp [intOf]; omega
          · obtain rfl : d = j := by omega
            clear hl
            obtain ⟨A1, c1, rfl, hsl⟩ := hw.sl B0
            have hB2 : B0 ≤ wr.heap.size := by have := hb.size; have := hbi.size; omega
            have hown2 := hown.below hbi
            have hlk := wordsF_length d xs k
            have hlk2 : (wordsF d xs k).length ≤ 24 := by omega
            have hb2 := hb.trans (hbi.mono hb.size)
            clear hlk hown hw
            go_wp2_with (at_builtin; refine appW 34 24 Try.underlying34 Try.info24 rfl rfl _ _ rfl B0 _ _ _ _ _ _ hown2 hsl rfl rfl ?_ ?_ ?_ ?_ ?_)
            · omega
            · omega
            · exact hb2.size
            · exact hB
            intro v' w1 hown3 hgr3
            have hb3 := hb2.grown hgr3 hb2.size (fun j hj => (hown2.lt j hj).1)
            clear hown2 hsl hgr3 hb2 hlk2 hbi
            go_wp2
            go_roundw
            case rel => exact ⟨k + 1, by omega, by go_num, by rw [posN_succ d xs k HX.out, ← HPk.out, ← HQ.out]; go_num, by rw [wordsF_succ d xs k HX.out, ← HPk.out, ← HQ.out]; exact hown3, hb3⟩
            case measure => simp [intOf]; omega
      · have hc2 := (World.cell?_alloc_lt wo (.cells #[] 3) _ (cell_lt hc)).trans hc
        go_wp2
        go_loopw [8, 10, 12] (fun n v i wr => ∃ j : Nat, j ≤ 1 ∧ i = .int .i64 j ∧ n = .int .i64 ((p + j : Nat) : Int) ∧ OwnI wr wo.heap.size v (wordN p j) ∧ Below wo.heap.size wo wr) (fun _ _ i _ => 1 - (intOf i).toNat)
        case atStart => exact ⟨0, Nat.zero_le _, rfl, rfl, own_new (Value.int .i64) 3 wo _ (Nat.le_refl _) [] (by simp), below_alloc _ _⟩
        case round =>
          obtain ⟨j, hj, rfl, rfl, hw, hbi⟩ := hrel
          have hl := wordN_length p j
          by_cases hjq : j < 1
          · have hlj : (wordN p j).length ≤ 8 := by omega
            clear hl
            go_wp2_with (at_builtin; refine app1 (Value.int .i64) oneInt 24 3 8 Try.underlying24 Try.info3 rfl rfl _ _ rfl _ _ _ _ hw rfl rfl ?_ ?_ ?_ ?_)
            · omega
            · omega
            · exact hbi.size
            intro v' w1 hown1 hgr1
            have hb2 := hbi.grown hgr1 hbi.size (fun j hj => (hw.lt j hj).1)
            clear hw hbi hgr1 hlj
            go_wp2
            go_roundw
            case rel => exact ⟨j + 1, by omega, by go_num, by go_num, by rw [wordN_succ]; simpa using hown1, hb2⟩
            case measure => simp [intOf]; omega
          · obtain rfl : j = 1 := by omega
            clear hl
            obtain ⟨A1, c1, rfl, hsl⟩ := hw.sl B0
            have hB2 : B0 ≤ wr.heap.size := by have := hb.size; have := hbi.size; omega
            have hown2 := hown.below hbi
            have hlk := wordsF_length d xs k
            have hlk2 : (wordsF d xs k).length ≤ 24 := by omega
            have hb2 := hb.trans (hbi.mono hb.size)
            clear hlk hown hw
            go_wp2_with (at_builtin; refine appW 34 24 Try.underlying34 Try.info24 rfl rfl _ _ rfl B0 _ _ _ _ _ _ hown2 hsl rfl rfl ?_ ?_ ?_ ?_ ?_)
            · omega
            · omega
            · exact hb2.size
            · exact hB
            intro v' w1 hown3 hgr3
            have hb3 := hb2.grown hgr3 hb2.size (fun j hj => (hown2.lt j hj).1)
            clear hown2 hsl hgr3 hb2 hlk2 hbi
            go_wp2
            go_roundw
            case rel => exact ⟨k + 1, by omega, by go_num, by rw [posN_succ d xs k HX.out, ← HPk.out, ← HQ.out]; go_num, by rw [wordsF_succ d xs k HX.out, ← HPk.out, ← HQ.out]; exact hown3, hb3⟩
            case measure => simp [intOf]; omega
    · obtain rfl : k = xs.length := by omega
      obtain ⟨A1, c1, rfl, hsl⟩ := hown.sl
      clear hown
      go_wp2
      go_ret3
      exact ⟨_, _, rfl, hsl, hb⟩

theorem rwords_no (a : Int) (xs : List Int) (A : Option Addr) (c B0 : Nat) (w : World) (hf : ¬ fitsP a xs) (hs : SlI w B0 A c xs) :
    Calls Try.prog 30 #[.int .i64 a, .slice A xs.length c] w fun e w' => e = .returned (.tuple #[.slice none 0 0, .int .i64 0, .int .i64 1]) ∧ w = w' := by
  have e1 : fitsB a xs = false := fitsB_no hf
  clear hf
  go_enter Try.func30, Try.ntmps30
  go_wp2_with (go_at_call 97; refine (isSorts_any _ _ _ _ _ _ hs).mono ?_; rintro e w' ⟨rfl, rfl⟩)
  go_ret3
  exact ⟨rfl, rfl⟩

theorem rbits_no (a : Int) (xs ins : List Int) (A A' : Option Addr) (c c' B0 : Nat) (w : World) (hf : ¬ (fitsP a xs ∧ ins.length = xs.length)) (hs : SlI w B0 A c xs) (hs' : SlI w B0 A' c' ins) :
    Calls Try.prog 31 #[.int .i64 a, .slice A xs.length c, .slice A' ins.length c'] w fun e w' => e = .returned (.tuple #[.slice none 0 0, .int .i64 1]) ∧ w = w' := by
  have hbig := hs.big
  have hbig' := hs'.big
  by_cases h : fitsP a xs
  · have e1 : fitsB a xs = true := fitsB_yes h
    have hne : ((xs.length : Int) != (ins.length : Int)) = true := by
      rw [bne_iff_ne]; intro h1; exact hf ⟨h, by omega⟩
    clear hf h
    go_enter Try.func31, Try.ntmps31
    go_wp2_with (go_at_call 97; refine (isSorts_any _ _ _ _ _ _ hs).mono ?_; rintro e w' ⟨rfl, rfl⟩)
    go_ret2
    exact ⟨rfl, rfl⟩
  · have e1 : fitsB a xs = false := fitsB_no h
    clear hf h
    go_enter Try.func31, Try.ntmps31
    go_wp2_with (go_at_call 97; refine (isSorts_any _ _ _ _ _ _ hs).mono ?_; rintro e w' ⟨rfl, rfl⟩)
    go_ret2
    exact ⟨rfl, rfl⟩

theorem tmod_two (n : Int) : (n.tmod 2 != 0) = (n % 2 == 1) := by
  have e : n.tmod 2 = 0 ↔ n % 2 = 0 := by
    rw [← Int.dvd_iff_tmod_eq_zero, ← Int.dvd_iff_emod_eq_zero]
  by_cases h : n % 2 = 0
  · rw [e.2 h, h]; rfl
  · have h1 : n % 2 = 1 := by omega
    rw [h1, show (n.tmod 2 != 0) = true from by rw [bne_iff_ne]; exact fun h2 => h (e.1 h2)]; rfl

set_option maxHeartbeats 4000000 in
theorem rbits_yes (a : Int) (xs ins : List Int) (A A' : Option Addr) (c c' B0 : Nat) (w : World) (hB : B0 ≤ w.heap.size) (hf : fitsP a xs) (hl : ins.length = xs.length) (hs : SlI w B0 A c xs) (hs' : SlI w B0 A' c' ins) :
    Calls Try.prog 31 #[.int .i64 a, .slice A xs.length c, .slice A' ins.length c'] w (Bits26 a xs ins w) := by
  obtain ⟨d, rfl⟩ : ∃ d : Nat, a = d := Int.eq_ofNat_of_zero_le (show 0 ≤ a by have := hf.1; omega)
  have e1 : fitsB d xs = true := fitsB_yes hf
  have h1 := hf.1
  have h2 := hf.2.1
  have h3 := hf.2.2.1
  have HA := Lib.hid hf.2.2.2
  have HP := Lib.hid (posN_le h1 h2 xs)
  have hd : ((xs.length : Int) != (ins.length : Int)) = false := by simp [hl]
  have hbig := hs'.big
  have HL := Lib.hid hl
  have HS1 := Lib.hid hs
  have HS2 := Lib.hid hs'
  clear hf hl hs hs'
  go_enter Try.func31, Try.ntmps31
  go_wp2_with (go_at_call 97; refine (isSorts_any _ _ _ _ _ _ HS1.out).mono ?_; rintro e w' ⟨rfl, rfl⟩)
  go_loopw [8, 9, 10, 11] (fun v i _ _ wr => ∃ k : Nat, k ≤ xs.length ∧ i = .int .i64 k ∧ allIn d xs ins k ∧ OwnB wr w.heap.size v (bitsF d xs ins k) ∧ Below w.heap.size w wr) (fun _ i _ _ _ => xs.length - (intOf i).toNat)
  case atStart => exact ⟨0, Nat.zero_le _, rfl, fun j x y h => by omega, own_new Value.bool 4 w _ (Nat.le_refl _) [] (by simp), below_alloc _ _⟩
  case round =>
    obtain ⟨k, hk, rfl, hall, hown, hb⟩ := hrel
    by_cases hlt : k < xs.length
    · obtain ⟨b, o, x, rfl, hx, hc⟩ := (HS1.out.below hb).at_ hlt
      obtain ⟨b', o', y, rfl, hy, hc'⟩ := (HS2.out.below hb).at_ (k := k) (by have := HL.out; omega)
      have hlt' : k < ins.length := by have := HL.out; omega
      have hpk : (bitsF d xs ins k).length ≤ 200 := by
        rw [bitsF_length d xs ins k hk (by have := HL.out; omega)]
        have := HP.out k hk
        omega
      have hsort := HA.out x (List.mem_of_getElem? hx)
      have HX := Lib.hid hx
      have HY := Lib.hid hy
      have HALL := Lib.hid hall
      clear hx hy hall
      by_cases hok : okIn d x y
      · have HOK := Lib.hid hok
        have hnextR : Hid (∀ bs : List Bool, bs = bitsOf y (szN d x) → bitsF d xs ins k ++ bs = bitsF d xs ins (k + 1)) := fun bs h => by rw [h, bitsF_succ d xs ins k HX.out HY.out]
        have hallR : Hid (allIn d xs ins (k + 1)) := fun i x' y' hi hx' hy' => by
          rcases Nat.lt_succ_iff_lt_or_eq.1 hi with h | rfl
          · exact HALL.out i x' y' h hx' hy'
          · rw [HX.out] at hx'; rw [HY.out] at hy'; cases hx'; cases hy'; exact HOK.out
        rcases hok with ⟨rfl, hw⟩ | ⟨rfl, hy⟩
        · have hne : (wrapW d y != y) = false := by simp [hw]
          have HQ : Hid (szN d 0 = d) := by show _ = _; simp [szN, sizeF]
          have hq8 : d ≤ 8 := by omega
          clear hw
          go_wp2_with (go_at_call 98; refine (rwrap_any _ _ _).mono ?_; rintro e w' ⟨rfl, rfl⟩)
          go_loopw [8, 11] (fun v i wr => ∃ j : Nat, j ≤ d ∧ i = .int .i64 j ∧ OwnB wr w.heap.size v (bitsF d xs ins k ++ bitsOf y j) ∧ Below w.heap.size w wr) (fun _ i _ => d - (intOf i).toNat)
          case atStart => exact ⟨0, Nat.zero_le _, rfl, by simpa [bitsOf] using hown, hb⟩
          case round =>
            obtain ⟨j, hj, rfl, hw, hbi⟩ := hrel
            by_cases hjq : j < d
            · have hlj : (bitsF d xs ins k ++ bitsOf y j).length ≤ 210 := by rw [List.length_append, bitsOf_length]; omega
              go_wp2_with (at_builtin; go_must (refine app1 Value.bool oneBool 27 4 1 Try.underlying27 Try.info4 rfl rfl _ _ rfl _ _ _ _ hw rfl rfl ?_ ?_ ?_ ?_))
              · omega
              · omega
              · exact hbi.size
              intro v' w1 hown1 hgr1
              have hb2 := hbi.grown hgr1 hbi.size (fun j hj => (hw.lt j hj).1)
              clear hw hbi hgr1 hlj
              go_wp2
              go_roundw
              case rel => exact ⟨j + 1, by omega, by go_num, by rw [bitsOf_succ, ← tmod_two]; simpa using hown1, hb2⟩
              case measure => simp [intOf]; omega
            · obtain rfl : d = j := by omega
              go_wp2
              go_roundw
              case rel => exact ⟨k + 1, by omega, by go_num, hallR.out, by rw [← hnextR.out _ (by rw [HQ.out])]; exact hw, hbi⟩
              case measure => simp [intOf]; omega
        · have hs1 : szN d 1 = 1 := by simp [szN, sizeF]
          have HNX : Hid (∀ bs : List Bool, bs = bitsOf y 1 → bitsF d xs ins k ++ bs = bitsF d xs ins (k + 1)) := fun bs h => hnextR.out bs (by rw [hs1]; exact h)
          clear hs1
          rcases hy with rfl | rfl
          all_goals
            go_wp2_with (at_builtin; go_must (refine app1 Value.bool oneBool 27 4 1 Try.underlying27 Try.info4 rfl rfl _ _ rfl _ _ _ _ hown rfl rfl ?_ ?_ ?_ ?_))
            · omega
            · omega
            · exact hb.size
            intro v' w1 hown1 hgr1
            have hb2 := hb.grown hgr1 hb.size (fun j hj => (hown.lt j hj).1)
            clear hown hb hgr1
            go_wp2
            go_roundw
            case rel => exact ⟨k + 1, by omega, by go_num, hallR.out, by rw [← HNX.out _ (by rfl)]; exact hown1, hb2⟩
            case measure => simp [intOf]; omega
      · have HN : Hid (¬ allIn d xs ins xs.length) := fun h => hok (h k x y hlt HX.out HY.out)
        rcases hsort with rfl | rfl
        · have hne : (wrapW d y != y) = true := by rw [bne_iff_ne]; intro h; exact hok (.inl ⟨rfl, h⟩)
          clear hok
          go_wp2_with (go_at_call 98; refine (rwrap_any _ _ _).mono ?_; rintro e w' ⟨rfl, rfl⟩)
          go_ret2
          exact .inr ⟨HN.out, rfl, hb⟩
        · have hn0 : (y != 0) = true := by rw [bne_iff_ne]; intro h; exact hok (.inr ⟨rfl, .inl h⟩)
          have hn1 : (y != 1) = true := by rw [bne_iff_ne]; intro h; exact hok (.inr ⟨rfl, .inr h⟩)
          clear hok
          go_wp2
          go_ret2
          exact .inr ⟨HN.out, rfl, hb⟩
    · obtain rfl : k = xs.length := by omega
      have HALL := Lib.hid hall
      clear hall
      go_wp2
      go_ret2
      exact .inl ⟨HALL.out, _, rfl, hown, hb⟩
end Go.Proofs.Ytgmcajojigedaaa
namespace Go.Proofs.Ytgmcajojigedaaa
open Go.RowKit

theorem wrapW_bit {a : Int} (n : Int) (k : Nat) (h1 : 2 ≤ a) (h2 : a ≤ 8) (hk : (k : Int) < a) : (wrapW a n / 2 ^ k) % 2 = (n / 2 ^ k) % 2 := by
  have hk7 : k = 0 ∨ k = 1 ∨ k = 2 ∨ k = 3 ∨ k = 4 ∨ k = 5 ∨ k = 6 ∨ k = 7 := by omega
  rcases width_cases h1 h2 with rfl | rfl | rfl | rfl | rfl | rfl | rfl <;> rcases hk7 with rfl | rfl | rfl | rfl | rfl | rfl | rfl | rfl <;> first | omega | (unfold wrapW; simp [Int.bmod]; omega)

set_option maxHeartbeats 1000000 in
theorem ints_any (xs ys : List Int) (A1 A2 : Option Addr) (c1 c2 B0 : Nat) (w : World) (h1 : SlI w B0 A1 c1 xs) (h2 : SlI w B0 A2 c2 ys) :
    Calls Try.prog 34 #[.slice A1 xs.length c1, .slice A2 ys.length c2] w (RetDraw (.bool (equalIB xs ys)) w) := by
  have hb1 := h1.big
  have hb2 := h2.big
  have H1 := Lib.hid h1
  have H2 := Lib.hid h2
  clear h1 h2
  by_cases hl : xs.length = ys.length
  · have hd : ((xs.length : Int) != (ys.length : Int)) = false := by simp [hl]
    have HL := Lib.hid hl
    clear hl
    go_enter Try.func34, Try.ntmps34
    go_wp2
    go_loopw [5] (fun i wr => ∃ k : Nat, k ≤ xs.length ∧ i = .int .i64 k ∧ (∀ j, j < k → xs[j]? = ys[j]?) ∧ ∃ n, wr = w.drewN n) (fun i _ => xs.length - (intOf i).toNat)
    case atStart => exact ⟨0, Nat.zero_le _, rfl, fun j h => by omega, 0, rfl⟩
    case round =>
      obtain ⟨k, hk, rfl, hall, n, rfl⟩ := hrel
      by_cases hlt : k < xs.length
      · obtain ⟨b1, o1, x, rfl, hx, hcx⟩ := H1.out.at_ hlt
        obtain ⟨b2, o2, y, rfl, hy, hcy⟩ := H2.out.at_ (k := k) (by have := HL.out; omega)
        have hltI : (k : Int) < (xs.length : Int) := by omega
        have hlt2 : (k : Int) < (ys.length : Int) := by have := HL.out; omega
        have hall' := Lib.hid hall
        have HX := Lib.hid hx
        have HY := Lib.hid hy
        clear hall hx hy
        by_cases hxy : x = y
        · have hne : (x != y) = false := by simp [hxy]
          have HXY := Lib.hid hxy
          clear hxy
          go_wp2
          go_quiet (fail)
          go_wp2
          go_roundw
          case rel => exact ⟨k + 1, by omega, by go_num, fun j hj => by
            rcases Nat.lt_succ_iff_lt_or_eq.1 hj with h | rfl
            · exact hall'.out j h
            · rw [HX.out, HY.out, HXY.out], _, rfl⟩
          case measure => simp [intOf]; omega
        · have hne : (x != y) = true := by simp [hxy]
          have hfin : equalIB xs ys = false := decide_eq_false fun h => by
            have e1 := HX.out
            rw [h, HY.out] at e1
            exact hxy (by cases e1; rfl)
          have HF := Lib.hid hfin
          clear hxy hfin
          go_wp2
          go_quiet (fail)
          go_wp2
          go_ret
          exact ⟨by rw [HF.out]; rfl, _, World.drewN_drewN _ _ _⟩
      · have hfin : equalIB xs ys = true := decide_eq_true (List.ext_getElem? fun j => by
          by_cases hj : j < k
          · exact hall j hj
          · have := HL.out
            rw [List.getElem?_eq_none (by omega), List.getElem?_eq_none (by omega)])
        have HF := Lib.hid hfin
        clear hfin hall
        go_wp2
        go_ret
        exact ⟨by rw [HF.out]; rfl, _, rfl⟩
  · have hd : ((xs.length : Int) != (ys.length : Int)) = true := by rw [bne_iff_ne]; omega
    have hfin : equalIB xs ys = false := decide_eq_false fun h => hl (by rw [h])
    have HF := Lib.hid hfin
    clear hl hfin
    go_enter Try.func34, Try.ntmps34
    go_wp2
    go_ret
    exact ⟨by rw [HF.out]; rfl, 0, rfl⟩

set_option maxHeartbeats 1000000 in
theorem rconst_any (a n : Int) (w : World) : Calls Try.prog 35 #[.int .i64 a, .int .i64 n] w (RetOwnI w (constF a n)) := by
  by_cases h : 2 ≤ a ∧ a ≤ 8
  · obtain ⟨h1, h2⟩ := h
    have HC : Hid (constF a n = bitsI a.toNat n) := constF_in n h1 h2
    obtain ⟨q, rfl⟩ := Int.eq_ofNat_of_zero_le (show 0 ≤ a by omega)
    have HW : Hid (∀ k : Nat, k < q → (wrapW q n / 2 ^ k) % 2 = (n / 2 ^ k) % 2) := fun k hk => wrapW_bit n k h1 h2 (by omega)
    obtain ⟨y, hy⟩ : ∃ y, wrapW q n = y := ⟨_, rfl⟩
    have HY := Lib.hid hy
    rw [hy] at HW
    clear hy
    go_enter Try.func35, Try.ntmps35
    go_wp2_with (first
      | (go_at_call 23; refine (isWidth_yes _ _ h1 h2).mono ?_; rintro e w2 ⟨rfl, rfl⟩)
      | (go_at_call 98; refine (rwrap_any _ _ _).mono ?_; rintro e w2 ⟨rfl, rfl⟩; rw [HY.out]))
    go_loopw [5, 6] (fun v i wr => ∃ k : Nat, k ≤ q ∧ i = .int .i64 k ∧ OwnI wr w.heap.size v (bitsI k n) ∧ Below w.heap.size w wr) (fun _ i _ => q - (intOf i).toNat)
    case atStart => exact ⟨0, Nat.zero_le _, rfl, own_new (Value.int .i64) 3 w _ (Nat.le_refl _) [] (by simp), below_alloc _ _⟩
    case round =>
      obtain ⟨k, hk, rfl, hown, hb⟩ := hrel
      by_cases hlt : k < q
      · have hlen : (bitsI k n).length ≤ 60 := by rw [bitsI_length]; omega
        have hbit := HW.out k hlt
        have htm := tmod_two (y / 2 ^ k)
        rw [hbit] at htm
        have hd : (n / 2 ^ k) % 2 = 0 ∨ (n / 2 ^ k) % 2 = 1 := by omega
        rcases hd with hd | hd
        all_goals
          have HN : Hid (bitsI (k + 1) n = bitsI k n ++ [(n / 2 ^ k) % 2]) := bitsI_succ k n
          rw [hd] at htm HN
          have htm' : ((y / 2 ^ k).tmod 2 != 0) = _ := htm
          clear htm hbit hd
          go_wp2_with (at_builtin; go_must (refine app1 (Value.int .i64) oneInt 24 3 8 Try.underlying24 Try.info3 rfl rfl _ _ rfl _ _ _ _ hown rfl rfl ?_ ?_ ?_ ?_))
          · omega
          · omega
          · exact hb.size
          intro v' w1 hown1 hgr1
          rw [← HN.out] at hown1
          have hb2 := hb.grown hgr1 hb.size (fun j hj => (hown.lt j hj).1)
          clear hown hb hgr1 hlen htm'
          go_wp2
          go_roundw
          case rel => exact ⟨k + 1, by omega, by go_num, hown1, hb2⟩
          case measure => simp [intOf]; omega
      · obtain rfl : k = q := by omega
        go_wp2
        go_ret
        exact ⟨_, rfl, by rw [HC.out]; exact hown, hb⟩
  · have hno : a < 2 ∨ 8 < a := by omega
    have HC : Hid (constF a n = []) := if_neg h
    clear h
    go_enter Try.func35, Try.ntmps35
    go_wp2_with (go_at_call 23; refine (isWidth_no _ _ hno).mono ?_; rintro e w2 ⟨rfl, rfl⟩)
    go_ret
    exact ⟨_, rfl, by rw [HC.out]; exact own_new (Value.int .i64) 3 w _ (Nat.le_refl _) [] (by simp), below_alloc _ _⟩

theorem valueF_int {bs : List Bool} (h1 : 1 ≤ bs.length) (h8 : bs.length ≤ 8) {k : Nat} {x : Bool} (hk : k + 1 = bs.length) (hx : bs[k]? = some x) : valueF 0 bs = valU (bs.take k) - 2 ^ k * b01 x := by
  unfold valueF
  have hl : (bs.take k).length = k := by rw [List.length_take]; omega
  have e : bs = bs.take k ++ [x] := by
    have : bs.take (k + 1) = bs.take k ++ [x] := by rw [List.take_add_one, hx]; rfl
    rw [← this, hk, List.take_length]
  rw [if_neg (by omega), if_pos ⟨rfl, h1, h8⟩]
  have e2 : valU bs = valU (bs.take k) + 2 ^ k * b01 x := by conv => lhs; rw [e, valU_snoc, hl]
  have e3 : bs.getLast? = some x := by rw [e]; simp
  rw [e2, e3, ← hk, Int.pow_succ]
  cases x <;> simp [b01]; omega

set_option maxHeartbeats 1000000 in
theorem rvalue_int (bs : List Bool) (A : Option Addr) (c B0 : Nat) (w : World) (h1 : 1 ≤ bs.length) (h8 : bs.length ≤ 8) (hs : SlB w B0 A c bs) :
    Calls Try.prog 33 #[.int .i64 0, .slice A bs.length c] w fun e w' => e = .returned (.int .i64 (valueF 0 bs)) ∧ w = w' := by
  have hd1 : decide ((bs.length : Int) < 1) = false := decide_eq_false (by omega)
  have hd2 : decide (8 < (bs.length : Int)) = false := decide_eq_false (by omega)
  have HS := Lib.hid hs
  clear hs
  go_enter Try.func33, Try.ntmps33
  go_wp2
  go_loop [5, 6] (fun v i => ∃ k : Nat, k ≤ bs.length ∧ i = .int .i64 k ∧ v = .int .i64 (if k = bs.length then valueF 0 bs else valU (bs.take k))) (fun _ i => bs.length - (intOf i).toNat)
  case atStart => exact ⟨0, Nat.zero_le _, rfl, by rw [if_neg (by omega)]; rfl⟩
  case round =>
    obtain ⟨k, hk, rfl, rfl⟩ := hrel
    by_cases hlt : k < bs.length
    · obtain ⟨b, o, x, rfl, hx, hc⟩ := HS.out.at_ hlt
      rw [if_neg (by omega)]
      have hl : (bs.take k).length = k := by rw [List.length_take]; omega
      have h0 := valU_nonneg (bs.take k)
      have hb := valU_lt (bs.take k)
      rw [hl] at hb
      have hp1 : (2 : Int) ^ k ≤ 256 := by
        have : (2 : Nat) ^ k ≤ 2 ^ 8 := Nat.pow_le_pow_right (by omega) (by omega)
        have hpi : ((2 ^ k : Nat) : Int) = 2 ^ k := by simp
        omega
      have hp0 : (0 : Int) < 2 ^ k := Int.pow_pos (by omega)
      have hsn : valU (bs.take (k + 1)) = valU (bs.take k) + 2 ^ k * b01 x := by
        have : bs.take (k + 1) = bs.take k ++ [x] := by rw [List.take_add_one, hx]; rfl
        rw [this, valU_snoc, hl]
      by_cases hlast : k + 1 = bs.length
      · have HV := Lib.hid (valueF_int h1 h8 hlast hx)
        have heq : ((k : Int) == (bs.length : Int) - 1) = true := by rw [beq_iff_eq]; omega
        have HL := Lib.hid hlast
        clear hx hsn hl hlast
        cases x
        all_goals
          go_wp2
          go_round
          case rel => exact ⟨k + 1, by omega, by go_num, by rw [if_pos HL.out, HV.out]; simp [b01]⟩
          case measure => simp [intOf]; omega
      · have heq : ((k : Int) == (bs.length : Int) - 1) = false := by rw [beq_eq_false_iff_ne]; omega
        have HL := Lib.hid hlast
        have HN := Lib.hid hsn
        clear hx hsn hl hlast
        cases x
        all_goals
          go_wp2
          go_round
          case rel => exact ⟨k + 1, by omega, by go_num, by rw [if_neg HL.out, HN.out]; simp [b01]⟩
          case measure => simp [intOf]; omega
    · obtain rfl : k = bs.length := by omega
      rw [if_pos rfl]
      go_wp2
      go_ret
      exact ⟨rfl, rfl⟩

theorem rvalue_bool (bs : List Bool) (A : Option Addr) (c B0 : Nat) (w : World) (h1 : bs.length = 1) (hs : SlB w B0 A c bs) :
    Calls Try.prog 33 #[.int .i64 1, .slice A bs.length c] w fun e w' => e = .returned (.int .i64 (valueF 1 bs)) ∧ w = w' := by
  obtain ⟨x, rfl⟩ : ∃ x, bs = [x] := by
    match bs, h1 with
    | [x], _ => exact ⟨x, rfl⟩
  obtain ⟨b, o, y, rfl, hx, hc⟩ := hs.at_ (k := 0) (by simp)
  have hc' : w.cell? ⟨b, o, none⟩ = some (.bool x) := by simp at hx; subst hx; exact hc
  clear hc hx hs h1
  cases x
  all_goals
    go_enter Try.func33, Try.ntmps33
    go_wp2
    go_ret
    exact ⟨rfl, rfl⟩

theorem rvalue_out (s : Int) (bs : List Bool) (A : Option Addr) (c B0 : Nat) (w : World) (h : ¬ (s = 1 ∧ bs.length = 1) ∧ ¬ (s = 0 ∧ 1 ≤ bs.length ∧ bs.length ≤ 8)) (hs : SlB w B0 A c bs) :
    Calls Try.prog 33 #[.int .i64 s, .slice A bs.length c] w fun e w' => e = .returned (.int .i64 (valueF s bs)) ∧ w = w' := by
  have hbig := hs.big
  have hv : valueF s bs = 0 := by unfold valueF; rw [if_neg h.1, if_neg h.2]
  rw [hv]
  clear hv
  obtain ⟨n, hn⟩ : ∃ n, n = bs.length := ⟨_, rfl⟩
  rw [← hn] at h hbig ⊢
  clear hn hs
  by_cases h1 : s = 1
  · subst h1
    have hne : ((n : Int) == 1) = false := by rw [beq_eq_false_iff_ne]; omega
    clear h
    go_enter Try.func33, Try.ntmps33
    go_wp2
    go_ret
    exact ⟨rfl, rfl⟩
  · have e1 : (s == 1) = false := by simp [h1]
    by_cases h0 : s = 0
    · subst h0
      by_cases hlt : n < 1
      · have hlt' : (n : Int) < 1 := by omega
        clear h h1
        go_enter Try.func33, Try.ntmps33
        go_wp2
        go_ret
        exact ⟨rfl, rfl⟩
      · have hlt' : decide ((n : Int) < 1) = false := decide_eq_false (by omega)
        have hgt : 8 < (n : Int) := by omega
        clear h h1 hlt
        go_enter Try.func33, Try.ntmps33
        go_wp2
        go_ret
        exact ⟨rfl, rfl⟩
    · have e0 : (s != 0) = true := by simp [h0]
      clear h h0 h1
      go_enter Try.func33, Try.ntmps33
      go_wp2
      go_ret
      exact ⟨rfl, rfl⟩

theorem rvalue_any (s : Int) (bs : List Bool) (A : Option Addr) (c B0 : Nat) (w : World) (hs : SlB w B0 A c bs) :
    Calls Try.prog 33 #[.int .i64 s, .slice A bs.length c] w fun e w' => e = .returned (.int .i64 (valueF s bs)) ∧ w = w' := by
  by_cases h1 : s = 1 ∧ bs.length = 1
  · obtain ⟨rfl, h⟩ := h1
    exact rvalue_bool bs A c B0 w h hs
  by_cases h2 : s = 0 ∧ 1 ≤ bs.length ∧ bs.length ≤ 8
  · obtain ⟨rfl, h3, h4⟩ := h2
    exact rvalue_int bs A c B0 w h3 h4 hs
  · exact rvalue_out s bs A c B0 w ⟨h1, h2⟩ hs
end Go.Proofs.Ytgmcajojigedaaa
