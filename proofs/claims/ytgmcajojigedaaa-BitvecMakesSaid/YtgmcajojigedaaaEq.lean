/- Walks of slices.Equal at []int and at []bool. -/
import Derived.Test.YtgmcajojigedaaaWr
set_option linter.unusedSimpArgs false
set_option linter.unusedVariables false
namespace Go.Proofs.Ytgmcajojigedaaa
open Go.RowKit

/-- A result, and no more than draws. -/
def RetDraw (v : Value) (w : World) (e : Ending) (w' : World) : Prop := e = .returned v ∧ ∃ n, w' = w.drewN n
theorem below_drewN {B : Nat} {a w : World} (h : Below B a w) (n : Nat) : Below B a (w.drewN n) := ⟨h.os, h.tape, h.output, h.size, h.block⟩
theorem drewN_add (w : World) (a b : Nat) : (w.drewN a).drewN b = w.drewN (a + b) := World.drewN_drewN w a b

def equalIB (xs ys : List Int) : Bool := decide (xs = ys)
set_option maxHeartbeats 400000 in
theorem equalI_any (xs ys : List Int) (A1 A2 : Option Addr) (c1 c2 B0 : Nat) (w : World) (h1 : SlI w B0 A1 c1 xs) (h2 : SlI w B0 A2 c2 ys) :
    Calls Try.prog 92 #[.slice A1 xs.length c1, .slice A2 ys.length c2] w (RetDraw (.bool (equalIB xs ys)) w) := by
  have hb1 := h1.big
  have hb2 := h2.big
  by_cases hl : xs.length = ys.length
  · have hd : ((xs.length : Int) != (ys.length : Int)) = false := by simp [hl]
    have HL := Lib.hid hl
    clear hl
    go_enter Try.func92, Try.ntmps92
    go_wp2
    go_loopw [5, 13] (fun _ i wr => ∃ k : Nat, k ≤ xs.length ∧ i = .int .i64 k ∧ (∀ j, j < k → xs[j]? = ys[j]?) ∧ ∃ n, wr = w.drewN n) (fun _ i _ => xs.length - (intOf i).toNat)
    case atStart => exact ⟨0, Nat.zero_le _, rfl, fun j h => by omega, 0, rfl⟩
    case round =>
      obtain ⟨k, hk, rfl, hall, n, rfl⟩ := hrel
      by_cases hlt : k < xs.length
      · obtain ⟨b1, o1, x, rfl, hx, hcx⟩ := h1.at_ hlt
        obtain ⟨b2, o2, y, rfl, hy, hcy⟩ := h2.at_ (k := k) (by have := HL.out; omega)
        have hltI : (k : Int) < (xs.length : Int) := by omega
        have hlt2 : (k : Int) < (ys.length : Int) := by have := HL.out; omega
        have hall' := Lib.hid hall
        have HX := Lib.hid hx
        have HY := Lib.hid hy
        clear hall hx hy h1 h2
        by_cases hxy : x = y
        · have hne : (x != y) = false := by simp [hxy]
          have HXY := Lib.hid hxy
          clear hxy
          go_wp2
          go_quiet (fail)
          go_wp2
          go_roundw
          case rel => exact ⟨k + 1, by omega, by go_num, fun j hj => by
            rcases Nat.lt_succ_iff_lt_or_eq.1 hj with h | rfl
            · exact hall'.out j h
            · rw [HX.out, HY.out, HXY.out], _, rfl⟩
          case measure => simp [intOf]; omega
        · have hne : (x != y) = true := by simp [hxy]
          have hfin : equalIB xs ys = false := decide_eq_false fun h => by
            have e1 := HX.out
            rw [h, HY.out] at e1
            exact hxy (by cases e1; rfl)
          have HF := Lib.hid hfin
          clear hxy hfin
          go_wp2
          go_quiet (fail)
          go_wp2
          go_ret
          exact ⟨by rw [HF.out]; rfl, _, World.drewN_drewN _ _ _⟩
      · have hfin : equalIB xs ys = true := decide_eq_true (List.ext_getElem? fun j => by
          by_cases hj : j < k
          · exact hall j hj
          · have := HL.out
            rw [List.getElem?_eq_none (by omega), List.getElem?_eq_none (by omega)])
        have HF := Lib.hid hfin
        clear hfin hall
        go_wp2
        go_ret
        exact ⟨by rw [HF.out]; rfl, _, rfl⟩
  · have hd : ((xs.length : Int) != (ys.length : Int)) = true := by rw [bne_iff_ne]; omega
    have hfin : equalIB xs ys = false := decide_eq_false fun h => hl (by rw [h])
    have HF := Lib.hid hfin
    clear hl hfin
    go_enter Try.func92, Try.ntmps92
    go_wp2
    go_ret
    exact ⟨by rw [HF.out]; rfl, 0, rfl⟩

def equalBB (xs ys : List Bool) : Bool := decide (xs = ys)
set_option maxHeartbeats 400000 in
theorem equalB_any (xs ys : List Bool) (A1 A2 : Option Addr) (c1 c2 B0 : Nat) (w : World) (h1 : SlB w B0 A1 c1 xs) (h2 : SlB w B0 A2 c2 ys) :
    Calls Try.prog 28 #[.slice A1 xs.length c1, .slice A2 ys.length c2] w (RetDraw (.bool (equalBB xs ys)) w) := by
  have hb1 := h1.big
  have hb2 := h2.big
  by_cases hl : xs.length = ys.length
  · have hd : ((xs.length : Int) != (ys.length : Int)) = false := by simp [hl]
    have HL := Lib.hid hl
    clear hl
    go_enter Try.func28, Try.ntmps28
    go_wp2
    go_loopw [5, 13] (fun _ i wr => ∃ k : Nat, k ≤ xs.length ∧ i = .int .i64 k ∧ (∀ j, j < k → xs[j]? = ys[j]?) ∧ ∃ n, wr = w.drewN n) (fun _ i _ => xs.length - (intOf i).toNat)
    case atStart => exact ⟨0, Nat.zero_le _, rfl, fun j h => by omega, 0, rfl⟩
    case round =>
      obtain ⟨k, hk, rfl, hall, n, rfl⟩ := hrel
      by_cases hlt : k < xs.length
      · obtain ⟨b1, o1, x, rfl, hx, hcx⟩ := h1.at_ hlt
        obtain ⟨b2, o2, y, rfl, hy, hcy⟩ := h2.at_ (k := k) (by have := HL.out; omega)
        have hltI : (k : Int) < (xs.length : Int) := by omega
        have hlt2 : (k : Int) < (ys.length : Int) := by have := HL.out; omega
        have hall' := Lib.hid hall
        have HX := Lib.hid hx
        have HY := Lib.hid hy
        clear hall hx hy h1 h2
        by_cases hxy : x = y
        · have hne : (!(x == y)) = false := by simp [hxy]
          have HXY := Lib.hid hxy
          clear hxy
          go_wp2
          go_quiet (fail)
          go_wp2
          go_roundw
          case rel => exact ⟨k + 1, by omega, by go_num, fun j hj => by
            rcases Nat.lt_succ_iff_lt_or_eq.1 hj with h | rfl
            · exact hall'.out j h
            · rw [HX.out, HY.out, HXY.out], _, rfl⟩
          case measure => simp [intOf]; omega
        · have hne : (!(x == y)) = true := by simp [hxy]
          have hfin : equalBB xs ys = false := decide_eq_false fun h => by
            have e1 := HX.out
            rw [h, HY.out] at e1
            exact hxy (by cases e1; rfl)
          have HF := Lib.hid hfin
          clear hxy hfin
          go_wp2
          go_quiet (fail)
          go_wp2
          go_ret
          exact ⟨by rw [HF.out]; rfl, _, World.drewN_drewN _ _ _⟩
      · have hfin : equalBB xs ys = true := decide_eq_true (List.ext_getElem? fun j => by
          by_cases hj : j < k
          · exact hall j hj
          · have := HL.out
            rw [List.getElem?_eq_none (by omega), List.getElem?_eq_none (by omega)])
        have HF := Lib.hid hfin
        clear hfin hall
        go_wp2
        go_ret
        exact ⟨by rw [HF.out]; rfl, _, rfl⟩
  · have hd : ((xs.length : Int) != (ys.length : Int)) = true := by rw [bne_iff_ne]; omega
    have hfin : equalBB xs ys = false := decide_eq_false fun h => hl (by rw [h])
    have HF := Lib.hid hfin
    clear hl hfin
    go_enter Try.func28, Try.ntmps28
    go_wp2
    go_ret
    exact ⟨by rw [HF.out]; rfl, 0, rfl⟩
end Go.Proofs.Ytgmcajojigedaaa
