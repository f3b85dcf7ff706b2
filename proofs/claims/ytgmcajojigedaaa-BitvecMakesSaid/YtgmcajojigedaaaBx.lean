/- Words of literals: the walks of words and inverse. -/
import Derived.Test.YtgmcajojigedaaaGg
import Derived.Test.YtgmcajojigedaaaBw
import Derived.Test.YtgmcajojigedaaaBv
set_option linter.unusedSimpArgs false
set_option linter.unusedVariables false
namespace Go.Proofs.Ytgmcajojigedaaa
open Go.RowKit

def wordB (n : Nat) (x : List Int) : Bool := decide (1 ≤ x.length ∧ x.length ≤ 8 ∧ x.length = n)
def wordsB (ws : List (List Int)) : Bool := ws.all (fun x => wordB (ws.headD []).length x)
theorem wordsB_one (x : List Int) : wordsB [x] = decide (1 ≤ x.length ∧ x.length ≤ 8) := by simp [wordsB, wordB]
theorem wordsB_two (x y : List Int) : wordsB [x, y] = decide (1 ≤ x.length ∧ x.length ≤ 8 ∧ y.length = x.length) := by
  have e : wordsB [x, y] = (wordB x.length x && (wordB x.length y && true)) := rfl
  rw [e, Bool.and_true]
  unfold wordB
  by_cases h : 1 ≤ x.length ∧ x.length ≤ 8 ∧ y.length = x.length
  · rw [decide_eq_true h, decide_eq_true (by omega), decide_eq_true (by omega)]; rfl
  · rw [decide_eq_false h]
    by_cases h1 : 1 ≤ x.length ∧ x.length ≤ 8 ∧ x.length = x.length
    · rw [decide_eq_false (p := 1 ≤ y.length ∧ y.length ≤ 8 ∧ y.length = x.length) (by omega), Bool.and_false]
    · rw [decide_eq_false h1]; rfl

theorem slw_one {w : World} {B0 : Nat} {A : Option Addr} {c : Nat} {x : List Int} (h : SlI w B0 A c x) :
    SlW (w.alloc (.cells #[.slice A x.length c] 24)) B0 (some ⟨w.heap.size, 0, none⟩) 1 [x] :=
  ⟨[(A, x.length, c)], rfl, by simpa [slV] using sl_new slV 24 w B0 [(A, x.length, c)] (by simp), fun i p y hp hy => by
    match i with
    | 0 => simp at hp hy; subst hp hy; exact ⟨rfl, h.alloc _⟩
    | i + 1 => simp at hp⟩
theorem slw_two {w : World} {B0 : Nat} {A A' : Option Addr} {c c' : Nat} {x y : List Int} (h : SlI w B0 A c x) (k : SlI w B0 A' c' y) :
    SlW (w.alloc (.cells #[.slice A x.length c, .slice A' y.length c'] 24)) B0 (some ⟨w.heap.size, 0, none⟩) 2 [x, y] :=
  ⟨[(A, x.length, c), (A', y.length, c')], rfl, by simpa [slV] using sl_new slV 24 w B0 [(A, x.length, c), (A', y.length, c')] (by simp), fun i p z hp hz => by
    match i with
    | 0 => simp at hp hz; subst hp hz; exact ⟨rfl, h.alloc _⟩
    | 1 => simp at hp hz; subst hp hz; exact ⟨rfl, k.alloc _⟩
    | i + 2 => simp at hp⟩

set_option maxHeartbeats 1000000 in
theorem words_any (ws : List (List Int)) (A : Option Addr) (c B0 : Nat) (w : World) (hs : SlW w B0 A c ws) (hne : 0 < ws.length) (hb : ws.length ≤ 2) :
    Calls Try.prog 102 #[.slice A ws.length c] w fun e w' => e = .returned (.bool (wordsB ws)) ∧ w = w' := by
  obtain ⟨b0, o0, y, A0, c0, hA0, hy, hcy, hsy⟩ := hs.at_ hne
  have hyb := hsy.big
  have hhd : ws.headD [] = y := by cases ws with | nil => simp at hne | cons a r => simp at hy; simp [hy]
  have HHD := Lib.hid hhd
  have HS := Lib.hid hs
  clear hs hy hsy hhd
  subst hA0
  have hcy' : w.cell? ⟨b0, o0, none⟩ = some (.slice A0 y.length c0) := hcy
  clear hcy
  go_enter Try.func102, Try.ntmps102
  go_wp2
  go_loop [4, 7] (fun _ i => ∃ k : Nat, k ≤ ws.length ∧ i = .int .i64 k ∧ ∀ j x, j < k → ws[j]? = some x → wordB y.length x = true) (fun _ i => ws.length - (intOf i).toNat)
  case atStart => exact ⟨0, Nat.zero_le _, rfl, fun j x h => by omega⟩
  case round =>
    obtain ⟨k, hk, rfl, hall⟩ := hrel
    by_cases hlt : k < ws.length
    · obtain ⟨b, o, x, A', c', e, hx, hc, hsx⟩ := HS.out.at_ hlt
      have hxb := hsx.big
      obtain ⟨rfl, rfl⟩ : b = b0 ∧ o = o0 := by cases e; exact ⟨rfl, rfl⟩
      have hno : wordB y.length x = false → wordsB ws = false := fun h => by
        rw [wordsB, HHD.out, Bool.eq_false_iff]
        intro ha
        rw [List.all_eq_true] at ha
        have := ha x (List.mem_of_getElem? hx)
        rw [h] at this
        cases this
      clear e hsx
      by_cases h1 : x.length < 1
      · have hf : Hid (wordsB ws = false) := hno (decide_eq_false (by omega))
        have h1' : (x.length : Int) < 1 := by omega
        clear hno h1
        go_wp2
        go_ret
        exact ⟨by rw [hf.out]; rfl, rfl⟩
      by_cases h2 : 8 < x.length
      · have hf : Hid (wordsB ws = false) := hno (decide_eq_false (by omega))
        have hd1 : decide ((x.length : Int) < 1) = false := decide_eq_false (by omega)
        have h2' : 8 < (x.length : Int) := by omega
        clear hno h1 h2
        go_wp2
        go_ret
        exact ⟨by rw [hf.out]; rfl, rfl⟩
      have hd1 : decide ((x.length : Int) < 1) = false := decide_eq_false (by omega)
      have hd2 : decide ((8 : Int) < (x.length : Int)) = false := decide_eq_false (by omega)
      by_cases h3 : x.length = y.length
      · have hd3 : ((x.length : Int) != (y.length : Int)) = false := by simp [h3]
        have hyes : Hid (wordB y.length x = true) := decide_eq_true (by omega)
        have HX := Lib.hid hx
        have HALL := Lib.hid hall
        clear hno h1 h2 h3 hx hall
        go_wp2
        go_round
        case rel => exact ⟨k + 1, by omega, by go_num, fun j z hj hz => by
          rcases Nat.lt_succ_iff_lt_or_eq.1 hj with h | rfl
          · exact HALL.out j z h hz
          · rw [HX.out] at hz; cases hz; exact hyes.out⟩
        case measure => simp [intOf]; omega
      · have hd3 : ((x.length : Int) != (y.length : Int)) = true := by rw [bne_iff_ne]; omega
        have hf : Hid (wordsB ws = false) := hno (decide_eq_false (by omega))
        clear hno h1 h2 h3 hx
        go_wp2
        go_ret
        exact ⟨by rw [hf.out]; rfl, rfl⟩
    · have hf : Hid (wordsB ws = true) := by
        show _ = _
        rw [wordsB, HHD.out, List.all_eq_true]
        intro x hx
        obtain ⟨j, hj⟩ := List.getElem?_of_mem hx
        exact hall j x (by have := (List.getElem?_eq_some_iff.1 hj).1; omega) hj
      clear hall
      go_wp2
      go_ret
      exact ⟨by rw [hf.out]; rfl, rfl⟩

set_option maxHeartbeats 1000000 in
theorem inverse_any (xs : List Int) (A : Option Addr) (c B0 : Nat) (w : World) (hs : SlI w B0 A c xs) (hl : xs.length ≤ 100) (hx : ∀ x ∈ xs, 0 ≤ x ∧ x < 9223372036854775807) :
    Calls Try.prog 105 #[.slice A xs.length c] w (RetOwnI w (xs.map notL)) := by
  have HS := Lib.hid hs
  have HX := Lib.hid hx
  clear hs hx
  go_enter Try.func105, Try.ntmps105
  go_wp2
  go_loopw [3, 5, 8] (fun v _ i wr => ∃ k : Nat, k ≤ xs.length ∧ i = .int .i64 k ∧ OwnI wr w.heap.size v ((xs.map notL).take k) ∧ Below w.heap.size w wr) (fun _ _ i _ => xs.length - (intOf i).toNat)
  case atStart => exact ⟨0, Nat.zero_le _, rfl, OwnOf.nil _ _, Below.refl _ _⟩
  case round =>
    obtain ⟨k, hk, rfl, hown, hb⟩ := hrel
    by_cases hlt : k < xs.length
    · obtain ⟨b, o, x, rfl, hxk, hc⟩ := (HS.out.below hb).at_ hlt
      have hx01 := HX.out x (List.mem_of_getElem? hxk)
      have hx0 := hx01.1
      have hx1 := hx01.2
      have hlen : ((xs.map notL).take k).length ≤ 100 := by simp; omega
      have hnext : Hid ((xs.map notL).take k ++ [notL x] = (xs.map notL).take (k + 1)) := by
        show _ = _; rw [List.take_add_one, List.getElem?_map, hxk]; rfl
      clear hxk hx01
      go_wp2_with (first
        | (go_at_call 108; refine (not_any _ _ (by omega) (by omega)).mono ?_; rintro e w' ⟨rfl, rfl⟩)
        | (at_builtin; go_must (refine app1 (Value.int .i64) oneInt 24 3 8 Try.underlying24 Try.info3 rfl rfl _ _ rfl _ _ _ _ hown rfl rfl ?_ ?_ ?_ ?_)))
      · omega
      · omega
      · exact hb.size
      intro v' w1 hown1 hgr1
      rw [hnext.out] at hown1
      have hb2 := hb.grown hgr1 hb.size (fun j hj => (hown.lt j hj).1)
      clear hown hb hgr1 hlen hc
      go_wp2
      go_roundw
      case rel => exact ⟨k + 1, by omega, by go_num, hown1, hb2⟩
      case measure => simp [intOf]; omega
    · obtain rfl : k = xs.length := by omega
      rw [List.take_of_length_le (by simp)] at hown
      go_wp2
      go_ret
      exact ⟨_, rfl, hown, hb⟩
end Go.Proofs.Ytgmcajojigedaaa
