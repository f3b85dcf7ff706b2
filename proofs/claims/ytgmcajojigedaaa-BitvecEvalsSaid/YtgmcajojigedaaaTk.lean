/- The values of operators: the walk of the table's value; parts of a node that is not there; Size. -/
import Derived.Test.YtgmcajojigedaaaTi
set_option linter.unusedSimpArgs false
set_option linter.unusedVariables false
namespace Go.Proofs.Ytgmcajojigedaaa
open Go.RowKit Go.Maps

def bI (b : Bool) : Int := if b then 1 else 0
/-- The value of an operator. -/
def opV (wd op a b c : Int) : Int :=
  if op = 4 then wrapW wd (-a) else if op = 5 then wrapW wd (a + b) else if op = 6 then wrapW wd (a - b) else if op = 7 then wrapW wd (a * b)
  else if op = 8 then quoW wd a b else if op = 9 then remW wd a b else if op = 11 then 1 - a else if op = 12 then bI (decide (a = 1 ∧ b = 1)) else if op = 13 then bI (decide (a = 1 ∨ b = 1))
  else if op = 14 ∨ op = 16 then bI (decide (a = b)) else if op = 17 then bI (decide (a < b)) else if a = 1 then b else c
theorem bdiv_v {a x y q r : Int} (hq : quoW a x y = q) (hr : remW a x y = r) (w : World) : Calls Try.prog 48 #[.int .i64 a, .int .i64 x, .int .i64 y] w fun e w' => e = .returned (.tuple #[.int .i64 q, .int .i64 r]) ∧ w = w' := by
  subst hq hr; exact bdivide_any a x y w
theorem truth_any (b : Bool) (w : World) : Calls Try.prog 162 #[.bool b] w fun e w' => e = .returned (.int .i64 (bI b)) ∧ w = w' := by
  cases b
  · go_enter Try.func162, Try.ntmps162
    go_wp2
    go_ret
    exact ⟨rfl, rfl⟩
  · go_enter Try.func162, Try.ntmps162
    go_wp2
    go_ret
    exact ⟨rfl, rfl⟩
theorem truth_v {b : Bool} {x : Int} (h : bI b = x) (w : World) : Calls Try.prog 162 #[.bool b] w fun e w' => e = .returned (.int .i64 x) ∧ w = w' := by subst h; exact truth_any b w
section
variable {B0 p m : Nat} {A : Option Addr} {c' : Nat} {T : TS} {w : World}
set_option maxRecDepth 100000 in
set_option maxHeartbeats 1000000 in
theorem value_4n (hb : Tb B0 w p m A c' T) (a b c : Int) (h1 : a ≠ 1) (ha1 : -128 ≤ a) (ha2 : a ≤ 128) (hb1 : -128 ≤ b) (hb2 : b ≤ 128)  :
    Calls Try.prog 119 #[.pointer (some ⟨p, 0, none⟩), .int .i64 4, .agg #[.int .i64 a, .int .i64 b, .int .i64 c]] w fun e w' => e = .returned (.int .i64 (opV T.width 4 a b c)) ∧ Below w.heap.size w w' := by
  obtain ⟨r, hr⟩ : ∃ r, opV T.width 4 a b c = r := ⟨_, rfl⟩
  rw [hr]
  have HR : Hid (wrapW T.width (-a) = r) := by
    show _ = _
    rw [← hr]; rfl
  have e1 : (a == 1) = false := beq_eq_false_iff_ne.2 h1
  have k1 : IntKind.i64.wrap (-a) = -a := by rw [IntKind.wrap_i64]; omega
  obtain ⟨Q, hQ⟩ : ∃ Q, quoW T.width a b = Q := ⟨_, rfl⟩
  obtain ⟨R, hR⟩ : ∃ R, remW T.width a b = R := ⟨_, rfl⟩
  have HQ := Lib.hid hQ
  have HRM := Lib.hid hR
  have HT := Lib.hid (hb.below (below_alloc w (.cells #[.int .i64 a, .int .i64 b, .int .i64 c] 82)))
  have c0 := HT.out.cell0
  clear hb hr hQ hR h1 
  go_enter Try.func119, Try.ntmps119
  go_wp2
  go_quiet ((go_at_call 48; exact quiet_left (bdiv_v HQ.out HRM.out _)))
  have k0 : ((w.alloc (.cells #[.int .i64 a, .int .i64 b, .int .i64 c] 82)).drewN nq).cell? ⟨w.heap.size, 0, none⟩ = some (.int .i64 a) := z_cell w _ _ 0
  have k1 : ((w.alloc (.cells #[.int .i64 a, .int .i64 b, .int .i64 c] 82)).drewN nq).cell? ⟨w.heap.size, 1, none⟩ = some (.int .i64 b) := z_cell w _ _ 1
  have k2 : ((w.alloc (.cells #[.int .i64 a, .int .i64 b, .int .i64 c] 82)).drewN nq).cell? ⟨w.heap.size, 2, none⟩ = some (.int .i64 c) := z_cell w _ _ 2
  have HBW : Hid (Below w.heap.size w ((w.alloc (.cells #[.int .i64 a, .int .i64 b, .int .i64 c] 82)).drewN nq)) := below_drewN (below_alloc _ _) nq
  have c0' := (HT.out.drewN nq).cell0
  obtain ⟨w1, hw1⟩ : ∃ w1 : World, (w.alloc (.cells #[.int .i64 a, .int .i64 b, .int .i64 c] 82)).drewN nq = w1 := ⟨_, rfl⟩
  rw [hw1] at k0 k1 k2 HBW c0' ⊢
  clear hw1 c0 HT
  go_wp2
  go_quiet ((go_at_call 25; exact quiet_left (wrap_v HR.out _)))
  go_wp2
  go_ret
  exact ⟨rfl, below_drewN HBW.out _⟩
set_option maxRecDepth 100000 in
set_option maxHeartbeats 1000000 in
theorem value_5n (hb : Tb B0 w p m A c' T) (a b c : Int) (h1 : a ≠ 1) (ha1 : -128 ≤ a) (ha2 : a ≤ 128) (hb1 : -128 ≤ b) (hb2 : b ≤ 128)  :
    Calls Try.prog 119 #[.pointer (some ⟨p, 0, none⟩), .int .i64 5, .agg #[.int .i64 a, .int .i64 b, .int .i64 c]] w fun e w' => e = .returned (.int .i64 (opV T.width 5 a b c)) ∧ Below w.heap.size w w' := by
  obtain ⟨r, hr⟩ : ∃ r, opV T.width 5 a b c = r := ⟨_, rfl⟩
  rw [hr]
  have HR : Hid (wrapW T.width (a + b) = r) := by
    show _ = _
    rw [← hr]; rfl
  have e1 : (a == 1) = false := beq_eq_false_iff_ne.2 h1
  have k1 : IntKind.i64.wrap (a + b) = a + b := by rw [IntKind.wrap_i64]; omega
  obtain ⟨Q, hQ⟩ : ∃ Q, quoW T.width a b = Q := ⟨_, rfl⟩
  obtain ⟨R, hR⟩ : ∃ R, remW T.width a b = R := ⟨_, rfl⟩
  have HQ := Lib.hid hQ
  have HRM := Lib.hid hR
  have HT := Lib.hid (hb.below (below_alloc w (.cells #[.int .i64 a, .int .i64 b, .int .i64 c] 82)))
  have c0 := HT.out.cell0
  clear hb hr hQ hR h1 
  go_enter Try.func119, Try.ntmps119
  go_wp2
  go_quiet ((go_at_call 48; exact quiet_left (bdiv_v HQ.out HRM.out _)))
  have k0 : ((w.alloc (.cells #[.int .i64 a, .int .i64 b, .int .i64 c] 82)).drewN nq).cell? ⟨w.heap.size, 0, none⟩ = some (.int .i64 a) := z_cell w _ _ 0
  have k1 : ((w.alloc (.cells #[.int .i64 a, .int .i64 b, .int .i64 c] 82)).drewN nq).cell? ⟨w.heap.size, 1, none⟩ = some (.int .i64 b) := z_cell w _ _ 1
  have k2 : ((w.alloc (.cells #[.int .i64 a, .int .i64 b, .int .i64 c] 82)).drewN nq).cell? ⟨w.heap.size, 2, none⟩ = some (.int .i64 c) := z_cell w _ _ 2
  have HBW : Hid (Below w.heap.size w ((w.alloc (.cells #[.int .i64 a, .int .i64 b, .int .i64 c] 82)).drewN nq)) := below_drewN (below_alloc _ _) nq
  have c0' := (HT.out.drewN nq).cell0
  obtain ⟨w1, hw1⟩ : ∃ w1 : World, (w.alloc (.cells #[.int .i64 a, .int .i64 b, .int .i64 c] 82)).drewN nq = w1 := ⟨_, rfl⟩
  rw [hw1] at k0 k1 k2 HBW c0' ⊢
  clear hw1 c0 HT
  go_wp2
  go_quiet ((go_at_call 25; exact quiet_left (wrap_v HR.out _)))
  go_wp2
  go_ret
  exact ⟨rfl, below_drewN HBW.out _⟩
set_option maxRecDepth 100000 in
set_option maxHeartbeats 1000000 in
theorem value_6n (hb : Tb B0 w p m A c' T) (a b c : Int) (h1 : a ≠ 1) (ha1 : -128 ≤ a) (ha2 : a ≤ 128) (hb1 : -128 ≤ b) (hb2 : b ≤ 128)  :
    Calls Try.prog 119 #[.pointer (some ⟨p, 0, none⟩), .int .i64 6, .agg #[.int .i64 a, .int .i64 b, .int .i64 c]] w fun e w' => e = .returned (.int .i64 (opV T.width 6 a b c)) ∧ Below w.heap.size w w' := by
  obtain ⟨r, hr⟩ : ∃ r, opV T.width 6 a b c = r := ⟨_, rfl⟩
  rw [hr]
  have HR : Hid (wrapW T.width (a - b) = r) := by
    show _ = _
    rw [← hr]; rfl
  have e1 : (a == 1) = false := beq_eq_false_iff_ne.2 h1
  have k1 : IntKind.i64.wrap (a - b) = a - b := by rw [IntKind.wrap_i64]; omega
  obtain ⟨Q, hQ⟩ : ∃ Q, quoW T.width a b = Q := ⟨_, rfl⟩
  obtain ⟨R, hR⟩ : ∃ R, remW T.width a b = R := ⟨_, rfl⟩
  have HQ := Lib.hid hQ
  have HRM := Lib.hid hR
  have HT := Lib.hid (hb.below (below_alloc w (.cells #[.int .i64 a, .int .i64 b, .int .i64 c] 82)))
  have c0 := HT.out.cell0
  clear hb hr hQ hR h1 
  go_enter Try.func119, Try.ntmps119
  go_wp2
  go_quiet ((go_at_call 48; exact quiet_left (bdiv_v HQ.out HRM.out _)))
  have k0 : ((w.alloc (.cells #[.int .i64 a, .int .i64 b, .int .i64 c] 82)).drewN nq).cell? ⟨w.heap.size, 0, none⟩ = some (.int .i64 a) := z_cell w _ _ 0
  have k1 : ((w.alloc (.cells #[.int .i64 a, .int .i64 b, .int .i64 c] 82)).drewN nq).cell? ⟨w.heap.size, 1, none⟩ = some (.int .i64 b) := z_cell w _ _ 1
  have k2 : ((w.alloc (.cells #[.int .i64 a, .int .i64 b, .int .i64 c] 82)).drewN nq).cell? ⟨w.heap.size, 2, none⟩ = some (.int .i64 c) := z_cell w _ _ 2
  have HBW : Hid (Below w.heap.size w ((w.alloc (.cells #[.int .i64 a, .int .i64 b, .int .i64 c] 82)).drewN nq)) := below_drewN (below_alloc _ _) nq
  have c0' := (HT.out.drewN nq).cell0
  obtain ⟨w1, hw1⟩ : ∃ w1 : World, (w.alloc (.cells #[.int .i64 a, .int .i64 b, .int .i64 c] 82)).drewN nq = w1 := ⟨_, rfl⟩
  rw [hw1] at k0 k1 k2 HBW c0' ⊢
  clear hw1 c0 HT
  go_wp2
  go_quiet ((go_at_call 25; exact quiet_left (wrap_v HR.out _)))
  go_wp2
  go_ret
  exact ⟨rfl, below_drewN HBW.out _⟩
set_option maxRecDepth 100000 in
set_option maxHeartbeats 1000000 in
theorem value_7n (hb : Tb B0 w p m A c' T) (a b c : Int) (h1 : a ≠ 1) (ha1 : -128 ≤ a) (ha2 : a ≤ 128) (hb1 : -128 ≤ b) (hb2 : b ≤ 128)  :
    Calls Try.prog 119 #[.pointer (some ⟨p, 0, none⟩), .int .i64 7, .agg #[.int .i64 a, .int .i64 b, .int .i64 c]] w fun e w' => e = .returned (.int .i64 (opV T.width 7 a b c)) ∧ Below w.heap.size w w' := by
  obtain ⟨r, hr⟩ : ∃ r, opV T.width 7 a b c = r := ⟨_, rfl⟩
  rw [hr]
  have HR : Hid (wrapW T.width (a * b) = r) := by
    show _ = _
    rw [← hr]; rfl
  have e1 : (a == 1) = false := beq_eq_false_iff_ne.2 h1
  have hzb : (a * b).natAbs ≤ 16384 := by rw [Int.natAbs_mul]; exact Nat.mul_le_mul (show a.natAbs ≤ 128 by omega) (show b.natAbs ≤ 128 by omega)
  obtain ⟨z, hz⟩ : ∃ z, a * b = z := ⟨_, rfl⟩
  rw [hz] at hzb HR
  have kz : IntKind.i64.wrap (a * b) = z := by rw [hz, IntKind.wrap_i64]; omega
  clear hzb hz
  obtain ⟨Q, hQ⟩ : ∃ Q, quoW T.width a b = Q := ⟨_, rfl⟩
  obtain ⟨R, hR⟩ : ∃ R, remW T.width a b = R := ⟨_, rfl⟩
  have HQ := Lib.hid hQ
  have HRM := Lib.hid hR
  have HT := Lib.hid (hb.below (below_alloc w (.cells #[.int .i64 a, .int .i64 b, .int .i64 c] 82)))
  have c0 := HT.out.cell0
  clear hb hr hQ hR h1 
  go_enter Try.func119, Try.ntmps119
  go_wp2
  go_quiet ((go_at_call 48; exact quiet_left (bdiv_v HQ.out HRM.out _)))
  have k0 : ((w.alloc (.cells #[.int .i64 a, .int .i64 b, .int .i64 c] 82)).drewN nq).cell? ⟨w.heap.size, 0, none⟩ = some (.int .i64 a) := z_cell w _ _ 0
  have k1 : ((w.alloc (.cells #[.int .i64 a, .int .i64 b, .int .i64 c] 82)).drewN nq).cell? ⟨w.heap.size, 1, none⟩ = some (.int .i64 b) := z_cell w _ _ 1
  have k2 : ((w.alloc (.cells #[.int .i64 a, .int .i64 b, .int .i64 c] 82)).drewN nq).cell? ⟨w.heap.size, 2, none⟩ = some (.int .i64 c) := z_cell w _ _ 2
  have HBW : Hid (Below w.heap.size w ((w.alloc (.cells #[.int .i64 a, .int .i64 b, .int .i64 c] 82)).drewN nq)) := below_drewN (below_alloc _ _) nq
  have c0' := (HT.out.drewN nq).cell0
  obtain ⟨w1, hw1⟩ : ∃ w1 : World, (w.alloc (.cells #[.int .i64 a, .int .i64 b, .int .i64 c] 82)).drewN nq = w1 := ⟨_, rfl⟩
  rw [hw1] at k0 k1 k2 HBW c0' ⊢
  clear hw1 c0 HT
  go_wp2
  go_quiet ((go_at_call 25; exact quiet_left (wrap_v HR.out _)))
  go_wp2
  go_ret
  exact ⟨rfl, below_drewN HBW.out _⟩
set_option maxRecDepth 100000 in
set_option maxHeartbeats 1000000 in
theorem value_8n (hb : Tb B0 w p m A c' T) (a b c : Int) (h1 : a ≠ 1) (ha1 : -128 ≤ a) (ha2 : a ≤ 128) (hb1 : -128 ≤ b) (hb2 : b ≤ 128)  :
    Calls Try.prog 119 #[.pointer (some ⟨p, 0, none⟩), .int .i64 8, .agg #[.int .i64 a, .int .i64 b, .int .i64 c]] w fun e w' => e = .returned (.int .i64 (opV T.width 8 a b c)) ∧ Below w.heap.size w w' := by
  obtain ⟨r, hr⟩ : ∃ r, opV T.width 8 a b c = r := ⟨_, rfl⟩
  rw [hr]
  have HR : Hid (quoW T.width a b = r) := by
    show _ = _
    rw [← hr]; rfl
  have e1 : (a == 1) = false := beq_eq_false_iff_ne.2 h1
  obtain ⟨Q, hQ⟩ : ∃ Q, quoW T.width a b = Q := ⟨_, rfl⟩
  obtain ⟨R, hR⟩ : ∃ R, remW T.width a b = R := ⟨_, rfl⟩
  have HQ := Lib.hid hQ
  have HRM := Lib.hid hR
  have HT := Lib.hid (hb.below (below_alloc w (.cells #[.int .i64 a, .int .i64 b, .int .i64 c] 82)))
  have c0 := HT.out.cell0
  clear hb hr hQ hR h1 
  go_enter Try.func119, Try.ntmps119
  go_wp2
  go_quiet ((go_at_call 48; exact quiet_left (bdiv_v HQ.out HRM.out _)))
  have k0 : ((w.alloc (.cells #[.int .i64 a, .int .i64 b, .int .i64 c] 82)).drewN nq).cell? ⟨w.heap.size, 0, none⟩ = some (.int .i64 a) := z_cell w _ _ 0
  have k1 : ((w.alloc (.cells #[.int .i64 a, .int .i64 b, .int .i64 c] 82)).drewN nq).cell? ⟨w.heap.size, 1, none⟩ = some (.int .i64 b) := z_cell w _ _ 1
  have k2 : ((w.alloc (.cells #[.int .i64 a, .int .i64 b, .int .i64 c] 82)).drewN nq).cell? ⟨w.heap.size, 2, none⟩ = some (.int .i64 c) := z_cell w _ _ 2
  have HBW : Hid (Below w.heap.size w ((w.alloc (.cells #[.int .i64 a, .int .i64 b, .int .i64 c] 82)).drewN nq)) := below_drewN (below_alloc _ _) nq
  have c0' := (HT.out.drewN nq).cell0
  obtain ⟨w1, hw1⟩ : ∃ w1 : World, (w.alloc (.cells #[.int .i64 a, .int .i64 b, .int .i64 c] 82)).drewN nq = w1 := ⟨_, rfl⟩
  rw [hw1] at k0 k1 k2 HBW c0' ⊢
  clear hw1 c0 HT
  go_wp2
  go_ret
  exact ⟨ret_i (by rw [← HR.out, HQ.out]), HBW.out⟩
set_option maxRecDepth 100000 in
set_option maxHeartbeats 1000000 in
theorem value_9n (hb : Tb B0 w p m A c' T) (a b c : Int) (h1 : a ≠ 1) (ha1 : -128 ≤ a) (ha2 : a ≤ 128) (hb1 : -128 ≤ b) (hb2 : b ≤ 128)  :
    Calls Try.prog 119 #[.pointer (some ⟨p, 0, none⟩), .int .i64 9, .agg #[.int .i64 a, .int .i64 b, .int .i64 c]] w fun e w' => e = .returned (.int .i64 (opV T.width 9 a b c)) ∧ Below w.heap.size w w' := by
  obtain ⟨r, hr⟩ : ∃ r, opV T.width 9 a b c = r := ⟨_, rfl⟩
  rw [hr]
  have HR : Hid (remW T.width a b = r) := by
    show _ = _
    rw [← hr]; rfl
  have e1 : (a == 1) = false := beq_eq_false_iff_ne.2 h1
  obtain ⟨Q, hQ⟩ : ∃ Q, quoW T.width a b = Q := ⟨_, rfl⟩
  obtain ⟨R, hR⟩ : ∃ R, remW T.width a b = R := ⟨_, rfl⟩
  have HQ := Lib.hid hQ
  have HRM := Lib.hid hR
  have HT := Lib.hid (hb.below (below_alloc w (.cells #[.int .i64 a, .int .i64 b, .int .i64 c] 82)))
  have c0 := HT.out.cell0
  clear hb hr hQ hR h1 
  go_enter Try.func119, Try.ntmps119
  go_wp2
  go_quiet ((go_at_call 48; exact quiet_left (bdiv_v HQ.out HRM.out _)))
  have k0 : ((w.alloc (.cells #[.int .i64 a, .int .i64 b, .int .i64 c] 82)).drewN nq).cell? ⟨w.heap.size, 0, none⟩ = some (.int .i64 a) := z_cell w _ _ 0
  have k1 : ((w.alloc (.cells #[.int .i64 a, .int .i64 b, .int .i64 c] 82)).drewN nq).cell? ⟨w.heap.size, 1, none⟩ = some (.int .i64 b) := z_cell w _ _ 1
  have k2 : ((w.alloc (.cells #[.int .i64 a, .int .i64 b, .int .i64 c] 82)).drewN nq).cell? ⟨w.heap.size, 2, none⟩ = some (.int .i64 c) := z_cell w _ _ 2
  have HBW : Hid (Below w.heap.size w ((w.alloc (.cells #[.int .i64 a, .int .i64 b, .int .i64 c] 82)).drewN nq)) := below_drewN (below_alloc _ _) nq
  have c0' := (HT.out.drewN nq).cell0
  obtain ⟨w1, hw1⟩ : ∃ w1 : World, (w.alloc (.cells #[.int .i64 a, .int .i64 b, .int .i64 c] 82)).drewN nq = w1 := ⟨_, rfl⟩
  rw [hw1] at k0 k1 k2 HBW c0' ⊢
  clear hw1 c0 HT
  go_wp2
  go_ret
  exact ⟨ret_i (by rw [← HR.out, HRM.out]), HBW.out⟩
set_option maxRecDepth 100000 in
set_option maxHeartbeats 1000000 in
theorem value_11n (hb : Tb B0 w p m A c' T) (a b c : Int) (h1 : a ≠ 1) (ha1 : -128 ≤ a) (ha2 : a ≤ 128) (hb1 : -128 ≤ b) (hb2 : b ≤ 128)  :
    Calls Try.prog 119 #[.pointer (some ⟨p, 0, none⟩), .int .i64 11, .agg #[.int .i64 a, .int .i64 b, .int .i64 c]] w fun e w' => e = .returned (.int .i64 (opV T.width 11 a b c)) ∧ Below w.heap.size w w' := by
  obtain ⟨r, hr⟩ : ∃ r, opV T.width 11 a b c = r := ⟨_, rfl⟩
  rw [hr]
  have HR : Hid (1 - a = r) := by
    show _ = _
    rw [← hr]; rfl
  have e1 : (a == 1) = false := beq_eq_false_iff_ne.2 h1
  obtain ⟨Q, hQ⟩ : ∃ Q, quoW T.width a b = Q := ⟨_, rfl⟩
  obtain ⟨R, hR⟩ : ∃ R, remW T.width a b = R := ⟨_, rfl⟩
  have HQ := Lib.hid hQ
  have HRM := Lib.hid hR
  have HT := Lib.hid (hb.below (below_alloc w (.cells #[.int .i64 a, .int .i64 b, .int .i64 c] 82)))
  have c0 := HT.out.cell0
  clear hb hr hQ hR h1 
  go_enter Try.func119, Try.ntmps119
  go_wp2
  go_quiet ((go_at_call 48; exact quiet_left (bdiv_v HQ.out HRM.out _)))
  have k0 : ((w.alloc (.cells #[.int .i64 a, .int .i64 b, .int .i64 c] 82)).drewN nq).cell? ⟨w.heap.size, 0, none⟩ = some (.int .i64 a) := z_cell w _ _ 0
  have k1 : ((w.alloc (.cells #[.int .i64 a, .int .i64 b, .int .i64 c] 82)).drewN nq).cell? ⟨w.heap.size, 1, none⟩ = some (.int .i64 b) := z_cell w _ _ 1
  have k2 : ((w.alloc (.cells #[.int .i64 a, .int .i64 b, .int .i64 c] 82)).drewN nq).cell? ⟨w.heap.size, 2, none⟩ = some (.int .i64 c) := z_cell w _ _ 2
  have HBW : Hid (Below w.heap.size w ((w.alloc (.cells #[.int .i64 a, .int .i64 b, .int .i64 c] 82)).drewN nq)) := below_drewN (below_alloc _ _) nq
  have c0' := (HT.out.drewN nq).cell0
  obtain ⟨w1, hw1⟩ : ∃ w1 : World, (w.alloc (.cells #[.int .i64 a, .int .i64 b, .int .i64 c] 82)).drewN nq = w1 := ⟨_, rfl⟩
  rw [hw1] at k0 k1 k2 HBW c0' ⊢
  clear hw1 c0 HT
  go_wp2
  go_ret
  exact ⟨ret_i HR.out, HBW.out⟩
set_option maxRecDepth 100000 in
set_option maxHeartbeats 1000000 in
theorem value_14n (hb : Tb B0 w p m A c' T) (a b c : Int) (h1 : a ≠ 1) (ha1 : -128 ≤ a) (ha2 : a ≤ 128) (hb1 : -128 ≤ b) (hb2 : b ≤ 128)  :
    Calls Try.prog 119 #[.pointer (some ⟨p, 0, none⟩), .int .i64 14, .agg #[.int .i64 a, .int .i64 b, .int .i64 c]] w fun e w' => e = .returned (.int .i64 (opV T.width 14 a b c)) ∧ Below w.heap.size w w' := by
  obtain ⟨r, hr⟩ : ∃ r, opV T.width 14 a b c = r := ⟨_, rfl⟩
  rw [hr]
  have HR : Hid (bI (decide (a = b)) = r) := by
    show _ = _
    rw [← hr]; rfl
  have e1 : (a == 1) = false := beq_eq_false_iff_ne.2 h1
  obtain ⟨be, hbe⟩ : ∃ be, decide (a = b) = be := ⟨_, rfl⟩
  have hbe1 : (a == b) = be := by rw [← hbe]; by_cases h : a = b <;> simp [h]
  rw [hbe] at HR
  clear hbe
  obtain ⟨Q, hQ⟩ : ∃ Q, quoW T.width a b = Q := ⟨_, rfl⟩
  obtain ⟨R, hR⟩ : ∃ R, remW T.width a b = R := ⟨_, rfl⟩
  have HQ := Lib.hid hQ
  have HRM := Lib.hid hR
  have HT := Lib.hid (hb.below (below_alloc w (.cells #[.int .i64 a, .int .i64 b, .int .i64 c] 82)))
  have c0 := HT.out.cell0
  clear hb hr hQ hR h1 
  go_enter Try.func119, Try.ntmps119
  go_wp2
  go_quiet ((go_at_call 48; exact quiet_left (bdiv_v HQ.out HRM.out _)))
  have k0 : ((w.alloc (.cells #[.int .i64 a, .int .i64 b, .int .i64 c] 82)).drewN nq).cell? ⟨w.heap.size, 0, none⟩ = some (.int .i64 a) := z_cell w _ _ 0
  have k1 : ((w.alloc (.cells #[.int .i64 a, .int .i64 b, .int .i64 c] 82)).drewN nq).cell? ⟨w.heap.size, 1, none⟩ = some (.int .i64 b) := z_cell w _ _ 1
  have k2 : ((w.alloc (.cells #[.int .i64 a, .int .i64 b, .int .i64 c] 82)).drewN nq).cell? ⟨w.heap.size, 2, none⟩ = some (.int .i64 c) := z_cell w _ _ 2
  have HBW : Hid (Below w.heap.size w ((w.alloc (.cells #[.int .i64 a, .int .i64 b, .int .i64 c] 82)).drewN nq)) := below_drewN (below_alloc _ _) nq
  have c0' := (HT.out.drewN nq).cell0
  obtain ⟨w1, hw1⟩ : ∃ w1 : World, (w.alloc (.cells #[.int .i64 a, .int .i64 b, .int .i64 c] 82)).drewN nq = w1 := ⟨_, rfl⟩
  rw [hw1] at k0 k1 k2 HBW c0' ⊢
  clear hw1 c0 HT
  go_wp2_with (go_at_call 162; go_must (refine (truth_v HR.out _).mono ?_; rintro e w9 ⟨rfl, rfl⟩))
  go_ret
  exact ⟨rfl, HBW.out⟩
set_option maxRecDepth 100000 in
set_option maxHeartbeats 1000000 in
theorem value_16n (hb : Tb B0 w p m A c' T) (a b c : Int) (h1 : a ≠ 1) (ha1 : -128 ≤ a) (ha2 : a ≤ 128) (hb1 : -128 ≤ b) (hb2 : b ≤ 128)  :
    Calls Try.prog 119 #[.pointer (some ⟨p, 0, none⟩), .int .i64 16, .agg #[.int .i64 a, .int .i64 b, .int .i64 c]] w fun e w' => e = .returned (.int .i64 (opV T.width 16 a b c)) ∧ Below w.heap.size w w' := by
  obtain ⟨r, hr⟩ : ∃ r, opV T.width 16 a b c = r := ⟨_, rfl⟩
  rw [hr]
  have HR : Hid (bI (decide (a = b)) = r) := by
    show _ = _
    rw [← hr]; rfl
  have e1 : (a == 1) = false := beq_eq_false_iff_ne.2 h1
  obtain ⟨be, hbe⟩ : ∃ be, decide (a = b) = be := ⟨_, rfl⟩
  have hbe1 : (a == b) = be := by rw [← hbe]; by_cases h : a = b <;> simp [h]
  rw [hbe] at HR
  clear hbe
  obtain ⟨Q, hQ⟩ : ∃ Q, quoW T.width a b = Q := ⟨_, rfl⟩
  obtain ⟨R, hR⟩ : ∃ R, remW T.width a b = R := ⟨_, rfl⟩
  have HQ := Lib.hid hQ
  have HRM := Lib.hid hR
  have HT := Lib.hid (hb.below (below_alloc w (.cells #[.int .i64 a, .int .i64 b, .int .i64 c] 82)))
  have c0 := HT.out.cell0
  clear hb hr hQ hR h1 
  go_enter Try.func119, Try.ntmps119
  go_wp2
  go_quiet ((go_at_call 48; exact quiet_left (bdiv_v HQ.out HRM.out _)))
  have k0 : ((w.alloc (.cells #[.int .i64 a, .int .i64 b, .int .i64 c] 82)).drewN nq).cell? ⟨w.heap.size, 0, none⟩ = some (.int .i64 a) := z_cell w _ _ 0
  have k1 : ((w.alloc (.cells #[.int .i64 a, .int .i64 b, .int .i64 c] 82)).drewN nq).cell? ⟨w.heap.size, 1, none⟩ = some (.int .i64 b) := z_cell w _ _ 1
  have k2 : ((w.alloc (.cells #[.int .i64 a, .int .i64 b, .int .i64 c] 82)).drewN nq).cell? ⟨w.heap.size, 2, none⟩ = some (.int .i64 c) := z_cell w _ _ 2
  have HBW : Hid (Below w.heap.size w ((w.alloc (.cells #[.int .i64 a, .int .i64 b, .int .i64 c] 82)).drewN nq)) := below_drewN (below_alloc _ _) nq
  have c0' := (HT.out.drewN nq).cell0
  obtain ⟨w1, hw1⟩ : ∃ w1 : World, (w.alloc (.cells #[.int .i64 a, .int .i64 b, .int .i64 c] 82)).drewN nq = w1 := ⟨_, rfl⟩
  rw [hw1] at k0 k1 k2 HBW c0' ⊢
  clear hw1 c0 HT
  go_wp2_with (go_at_call 162; go_must (refine (truth_v HR.out _).mono ?_; rintro e w9 ⟨rfl, rfl⟩))
  go_ret
  exact ⟨rfl, HBW.out⟩
set_option maxRecDepth 100000 in
set_option maxHeartbeats 1000000 in
theorem value_17n (hb : Tb B0 w p m A c' T) (a b c : Int) (h1 : a ≠ 1) (ha1 : -128 ≤ a) (ha2 : a ≤ 128) (hb1 : -128 ≤ b) (hb2 : b ≤ 128)  :
    Calls Try.prog 119 #[.pointer (some ⟨p, 0, none⟩), .int .i64 17, .agg #[.int .i64 a, .int .i64 b, .int .i64 c]] w fun e w' => e = .returned (.int .i64 (opV T.width 17 a b c)) ∧ Below w.heap.size w w' := by
  obtain ⟨r, hr⟩ : ∃ r, opV T.width 17 a b c = r := ⟨_, rfl⟩
  rw [hr]
  have HR : Hid (bI (decide (a < b)) = r) := by
    show _ = _
    rw [← hr]; rfl
  have e1 : (a == 1) = false := beq_eq_false_iff_ne.2 h1
  obtain ⟨be, hbe⟩ : ∃ be, decide (a < b) = be := ⟨_, rfl⟩
  rw [hbe] at HR
  obtain ⟨Q, hQ⟩ : ∃ Q, quoW T.width a b = Q := ⟨_, rfl⟩
  obtain ⟨R, hR⟩ : ∃ R, remW T.width a b = R := ⟨_, rfl⟩
  have HQ := Lib.hid hQ
  have HRM := Lib.hid hR
  have HT := Lib.hid (hb.below (below_alloc w (.cells #[.int .i64 a, .int .i64 b, .int .i64 c] 82)))
  have c0 := HT.out.cell0
  clear hb hr hQ hR h1 
  go_enter Try.func119, Try.ntmps119
  go_wp2
  go_quiet ((go_at_call 48; exact quiet_left (bdiv_v HQ.out HRM.out _)))
  have k0 : ((w.alloc (.cells #[.int .i64 a, .int .i64 b, .int .i64 c] 82)).drewN nq).cell? ⟨w.heap.size, 0, none⟩ = some (.int .i64 a) := z_cell w _ _ 0
  have k1 : ((w.alloc (.cells #[.int .i64 a, .int .i64 b, .int .i64 c] 82)).drewN nq).cell? ⟨w.heap.size, 1, none⟩ = some (.int .i64 b) := z_cell w _ _ 1
  have k2 : ((w.alloc (.cells #[.int .i64 a, .int .i64 b, .int .i64 c] 82)).drewN nq).cell? ⟨w.heap.size, 2, none⟩ = some (.int .i64 c) := z_cell w _ _ 2
  have HBW : Hid (Below w.heap.size w ((w.alloc (.cells #[.int .i64 a, .int .i64 b, .int .i64 c] 82)).drewN nq)) := below_drewN (below_alloc _ _) nq
  have c0' := (HT.out.drewN nq).cell0
  obtain ⟨w1, hw1⟩ : ∃ w1 : World, (w.alloc (.cells #[.int .i64 a, .int .i64 b, .int .i64 c] 82)).drewN nq = w1 := ⟨_, rfl⟩
  rw [hw1] at k0 k1 k2 HBW c0' ⊢
  clear hw1 c0 HT
  go_wp2_with (go_at_call 162; go_must (refine (truth_v HR.out _).mono ?_; rintro e w9 ⟨rfl, rfl⟩))
  go_ret
  exact ⟨rfl, HBW.out⟩
set_option maxRecDepth 100000 in
set_option maxHeartbeats 1000000 in
theorem value_10n (hb : Tb B0 w p m A c' T) (a b c : Int) (h1 : a ≠ 1) (ha1 : -128 ≤ a) (ha2 : a ≤ 128) (hb1 : -128 ≤ b) (hb2 : b ≤ 128)  :
    Calls Try.prog 119 #[.pointer (some ⟨p, 0, none⟩), .int .i64 10, .agg #[.int .i64 a, .int .i64 b, .int .i64 c]] w fun e w' => e = .returned (.int .i64 (opV T.width 10 a b c)) ∧ Below w.heap.size w w' := by
  obtain ⟨r, hr⟩ : ∃ r, opV T.width 10 a b c = r := ⟨_, rfl⟩
  rw [hr]
  have HR : Hid (c = r) := by
    show _ = _
    rw [← hr]; exact (if_neg h1).symm
  have e1 : (a == 1) = false := beq_eq_false_iff_ne.2 h1
  obtain ⟨Q, hQ⟩ : ∃ Q, quoW T.width a b = Q := ⟨_, rfl⟩
  obtain ⟨R, hR⟩ : ∃ R, remW T.width a b = R := ⟨_, rfl⟩
  have HQ := Lib.hid hQ
  have HRM := Lib.hid hR
  have HT := Lib.hid (hb.below (below_alloc w (.cells #[.int .i64 a, .int .i64 b, .int .i64 c] 82)))
  have c0 := HT.out.cell0
  clear hb hr hQ hR h1 
  go_enter Try.func119, Try.ntmps119
  go_wp2
  go_quiet ((go_at_call 48; exact quiet_left (bdiv_v HQ.out HRM.out _)))
  have k0 : ((w.alloc (.cells #[.int .i64 a, .int .i64 b, .int .i64 c] 82)).drewN nq).cell? ⟨w.heap.size, 0, none⟩ = some (.int .i64 a) := z_cell w _ _ 0
  have k1 : ((w.alloc (.cells #[.int .i64 a, .int .i64 b, .int .i64 c] 82)).drewN nq).cell? ⟨w.heap.size, 1, none⟩ = some (.int .i64 b) := z_cell w _ _ 1
  have k2 : ((w.alloc (.cells #[.int .i64 a, .int .i64 b, .int .i64 c] 82)).drewN nq).cell? ⟨w.heap.size, 2, none⟩ = some (.int .i64 c) := z_cell w _ _ 2
  have HBW : Hid (Below w.heap.size w ((w.alloc (.cells #[.int .i64 a, .int .i64 b, .int .i64 c] 82)).drewN nq)) := below_drewN (below_alloc _ _) nq
  have c0' := (HT.out.drewN nq).cell0
  obtain ⟨w1, hw1⟩ : ∃ w1 : World, (w.alloc (.cells #[.int .i64 a, .int .i64 b, .int .i64 c] 82)).drewN nq = w1 := ⟨_, rfl⟩
  rw [hw1] at k0 k1 k2 HBW c0' ⊢
  clear hw1 c0 HT
  go_wp2
  go_ret
  exact ⟨ret_i HR.out, HBW.out⟩
set_option maxRecDepth 100000 in
set_option maxHeartbeats 1000000 in
theorem value_15n (hb : Tb B0 w p m A c' T) (a b c : Int) (h1 : a ≠ 1) (ha1 : -128 ≤ a) (ha2 : a ≤ 128) (hb1 : -128 ≤ b) (hb2 : b ≤ 128)  :
    Calls Try.prog 119 #[.pointer (some ⟨p, 0, none⟩), .int .i64 15, .agg #[.int .i64 a, .int .i64 b, .int .i64 c]] w fun e w' => e = .returned (.int .i64 (opV T.width 15 a b c)) ∧ Below w.heap.size w w' := by
  obtain ⟨r, hr⟩ : ∃ r, opV T.width 15 a b c = r := ⟨_, rfl⟩
  rw [hr]
  have HR : Hid (c = r) := by
    show _ = _
    rw [← hr]; exact (if_neg h1).symm
  have e1 : (a == 1) = false := beq_eq_false_iff_ne.2 h1
  obtain ⟨Q, hQ⟩ : ∃ Q, quoW T.width a b = Q := ⟨_, rfl⟩
  obtain ⟨R, hR⟩ : ∃ R, remW T.width a b = R := ⟨_, rfl⟩
  have HQ := Lib.hid hQ
  have HRM := Lib.hid hR
  have HT := Lib.hid (hb.below (below_alloc w (.cells #[.int .i64 a, .int .i64 b, .int .i64 c] 82)))
  have c0 := HT.out.cell0
  clear hb hr hQ hR h1 
  go_enter Try.func119, Try.ntmps119
  go_wp2
  go_quiet ((go_at_call 48; exact quiet_left (bdiv_v HQ.out HRM.out _)))
  have k0 : ((w.alloc (.cells #[.int .i64 a, .int .i64 b, .int .i64 c] 82)).drewN nq).cell? ⟨w.heap.size, 0, none⟩ = some (.int .i64 a) := z_cell w _ _ 0
  have k1 : ((w.alloc (.cells #[.int .i64 a, .int .i64 b, .int .i64 c] 82)).drewN nq).cell? ⟨w.heap.size, 1, none⟩ = some (.int .i64 b) := z_cell w _ _ 1
  have k2 : ((w.alloc (.cells #[.int .i64 a, .int .i64 b, .int .i64 c] 82)).drewN nq).cell? ⟨w.heap.size, 2, none⟩ = some (.int .i64 c) := z_cell w _ _ 2
  have HBW : Hid (Below w.heap.size w ((w.alloc (.cells #[.int .i64 a, .int .i64 b, .int .i64 c] 82)).drewN nq)) := below_drewN (below_alloc _ _) nq
  have c0' := (HT.out.drewN nq).cell0
  obtain ⟨w1, hw1⟩ : ∃ w1 : World, (w.alloc (.cells #[.int .i64 a, .int .i64 b, .int .i64 c] 82)).drewN nq = w1 := ⟨_, rfl⟩
  rw [hw1] at k0 k1 k2 HBW c0' ⊢
  clear hw1 c0 HT
  go_wp2
  go_ret
  exact ⟨ret_i HR.out, HBW.out⟩
set_option maxRecDepth 100000 in
set_option maxHeartbeats 1000000 in
theorem value_4y (hb : Tb B0 w p m A c' T) (a b c : Int) (h1 : a = 1) (ha1 : -128 ≤ a) (ha2 : a ≤ 128) (hb1 : -128 ≤ b) (hb2 : b ≤ 128)  :
    Calls Try.prog 119 #[.pointer (some ⟨p, 0, none⟩), .int .i64 4, .agg #[.int .i64 a, .int .i64 b, .int .i64 c]] w fun e w' => e = .returned (.int .i64 (opV T.width 4 a b c)) ∧ Below w.heap.size w w' := by
  obtain ⟨r, hr⟩ : ∃ r, opV T.width 4 a b c = r := ⟨_, rfl⟩
  rw [hr]
  have HR : Hid (wrapW T.width (-a) = r) := by
    show _ = _
    rw [← hr]; rfl
  have e1 : (a == 1) = true := beq_iff_eq.2 h1
  have k1 : IntKind.i64.wrap (-a) = -a := by rw [IntKind.wrap_i64]; omega
  obtain ⟨Q, hQ⟩ : ∃ Q, quoW T.width a b = Q := ⟨_, rfl⟩
  obtain ⟨R, hR⟩ : ∃ R, remW T.width a b = R := ⟨_, rfl⟩
  have HQ := Lib.hid hQ
  have HRM := Lib.hid hR
  have HT := Lib.hid (hb.below (below_alloc w (.cells #[.int .i64 a, .int .i64 b, .int .i64 c] 82)))
  have c0 := HT.out.cell0
  clear hb hr hQ hR h1 
  go_enter Try.func119, Try.ntmps119
  go_wp2
  go_quiet ((go_at_call 48; exact quiet_left (bdiv_v HQ.out HRM.out _)))
  have k0 : ((w.alloc (.cells #[.int .i64 a, .int .i64 b, .int .i64 c] 82)).drewN nq).cell? ⟨w.heap.size, 0, none⟩ = some (.int .i64 a) := z_cell w _ _ 0
  have k1 : ((w.alloc (.cells #[.int .i64 a, .int .i64 b, .int .i64 c] 82)).drewN nq).cell? ⟨w.heap.size, 1, none⟩ = some (.int .i64 b) := z_cell w _ _ 1
  have k2 : ((w.alloc (.cells #[.int .i64 a, .int .i64 b, .int .i64 c] 82)).drewN nq).cell? ⟨w.heap.size, 2, none⟩ = some (.int .i64 c) := z_cell w _ _ 2
  have HBW : Hid (Below w.heap.size w ((w.alloc (.cells #[.int .i64 a, .int .i64 b, .int .i64 c] 82)).drewN nq)) := below_drewN (below_alloc _ _) nq
  have c0' := (HT.out.drewN nq).cell0
  obtain ⟨w1, hw1⟩ : ∃ w1 : World, (w.alloc (.cells #[.int .i64 a, .int .i64 b, .int .i64 c] 82)).drewN nq = w1 := ⟨_, rfl⟩
  rw [hw1] at k0 k1 k2 HBW c0' ⊢
  clear hw1 c0 HT
  go_wp2
  go_quiet ((go_at_call 25; exact quiet_left (wrap_v HR.out _)))
  go_wp2
  go_ret
  exact ⟨rfl, below_drewN HBW.out _⟩
set_option maxRecDepth 100000 in
set_option maxHeartbeats 1000000 in
theorem value_5y (hb : Tb B0 w p m A c' T) (a b c : Int) (h1 : a = 1) (ha1 : -128 ≤ a) (ha2 : a ≤ 128) (hb1 : -128 ≤ b) (hb2 : b ≤ 128)  :
    Calls Try.prog 119 #[.pointer (some ⟨p, 0, none⟩), .int .i64 5, .agg #[.int .i64 a, .int .i64 b, .int .i64 c]] w fun e w' => e = .returned (.int .i64 (opV T.width 5 a b c)) ∧ Below w.heap.size w w' := by
  obtain ⟨r, hr⟩ : ∃ r, opV T.width 5 a b c = r := ⟨_, rfl⟩
  rw [hr]
  have HR : Hid (wrapW T.width (a + b) = r) := by
    show _ = _
    rw [← hr]; rfl
  have e1 : (a == 1) = true := beq_iff_eq.2 h1
  have k1 : IntKind.i64.wrap (a + b) = a + b := by rw [IntKind.wrap_i64]; omega
  obtain ⟨Q, hQ⟩ : ∃ Q, quoW T.width a b = Q := ⟨_, rfl⟩
  obtain ⟨R, hR⟩ : ∃ R, remW T.width a b = R := ⟨_, rfl⟩
  have HQ := Lib.hid hQ
  have HRM := Lib.hid hR
  have HT := Lib.hid (hb.below (below_alloc w (.cells #[.int .i64 a, .int .i64 b, .int .i64 c] 82)))
  have c0 := HT.out.cell0
  clear hb hr hQ hR h1 
  go_enter Try.func119, Try.ntmps119
  go_wp2
  go_quiet ((go_at_call 48; exact quiet_left (bdiv_v HQ.out HRM.out _)))
  have k0 : ((w.alloc (.cells #[.int .i64 a, .int .i64 b, .int .i64 c] 82)).drewN nq).cell? ⟨w.heap.size, 0, none⟩ = some (.int .i64 a) := z_cell w _ _ 0
  have k1 : ((w.alloc (.cells #[.int .i64 a, .int .i64 b, .int .i64 c] 82)).drewN nq).cell? ⟨w.heap.size, 1, none⟩ = some (.int .i64 b) := z_cell w _ _ 1
  have k2 : ((w.alloc (.cells #[.int .i64 a, .int .i64 b, .int .i64 c] 82)).drewN nq).cell? ⟨w.heap.size, 2, none⟩ = some (.int .i64 c) := z_cell w _ _ 2
  have HBW : Hid (Below w.heap.size w ((w.alloc (.cells #[.int .i64 a, .int .i64 b, .int .i64 c] 82)).drewN nq)) := below_drewN (below_alloc _ _) nq
  have c0' := (HT.out.drewN nq).cell0
  obtain ⟨w1, hw1⟩ : ∃ w1 : World, (w.alloc (.cells #[.int .i64 a, .int .i64 b, .int .i64 c] 82)).drewN nq = w1 := ⟨_, rfl⟩
  rw [hw1] at k0 k1 k2 HBW c0' ⊢
  clear hw1 c0 HT
  go_wp2
  go_quiet ((go_at_call 25; exact quiet_left (wrap_v HR.out _)))
  go_wp2
  go_ret
  exact ⟨rfl, below_drewN HBW.out _⟩
set_option maxRecDepth 100000 in
set_option maxHeartbeats 1000000 in
theorem value_6y (hb : Tb B0 w p m A c' T) (a b c : Int) (h1 : a = 1) (ha1 : -128 ≤ a) (ha2 : a ≤ 128) (hb1 : -128 ≤ b) (hb2 : b ≤ 128)  :
    Calls Try.prog 119 #[.pointer (some ⟨p, 0, none⟩), .int .i64 6, .agg #[.int .i64 a, .int .i64 b, .int .i64 c]] w fun e w' => e = .returned (.int .i64 (opV T.width 6 a b c)) ∧ Below w.heap.size w w' := by
  obtain ⟨r, hr⟩ : ∃ r, opV T.width 6 a b c = r := ⟨_, rfl⟩
  rw [hr]
  have HR : Hid (wrapW T.width (a - b) = r) := by
    show _ = _
    rw [← hr]; rfl
  have e1 : (a == 1) = true := beq_iff_eq.2 h1
  have k1 : IntKind.i64.wrap (a - b) = a - b := by rw [IntKind.wrap_i64]; omega
  obtain ⟨Q, hQ⟩ : ∃ Q, quoW T.width a b = Q := ⟨_, rfl⟩
  obtain ⟨R, hR⟩ : ∃ R, remW T.width a b = R := ⟨_, rfl⟩
  have HQ := Lib.hid hQ
  have HRM := Lib.hid hR
  have HT := Lib.hid (hb.below (below_alloc w (.cells #[.int .i64 a, .int .i64 b, .int .i64 c] 82)))
  have c0 := HT.out.cell0
  clear hb hr hQ hR h1 
  go_enter Try.func119, Try.ntmps119
  go_wp2
  go_quiet ((go_at_call 48; exact quiet_left (bdiv_v HQ.out HRM.out _)))
  have k0 : ((w.alloc (.cells #[.int .i64 a, .int .i64 b, .int .i64 c] 82)).drewN nq).cell? ⟨w.heap.size, 0, none⟩ = some (.int .i64 a) := z_cell w _ _ 0
  have k1 : ((w.alloc (.cells #[.int .i64 a, .int .i64 b, .int .i64 c] 82)).drewN nq).cell? ⟨w.heap.size, 1, none⟩ = some (.int .i64 b) := z_cell w _ _ 1
  have k2 : ((w.alloc (.cells #[.int .i64 a, .int .i64 b, .int .i64 c] 82)).drewN nq).cell? ⟨w.heap.size, 2, none⟩ = some (.int .i64 c) := z_cell w _ _ 2
  have HBW : Hid (Below w.heap.size w ((w.alloc (.cells #[.int .i64 a, .int .i64 b, .int .i64 c] 82)).drewN nq)) := below_drewN (below_alloc _ _) nq
  have c0' := (HT.out.drewN nq).cell0
  obtain ⟨w1, hw1⟩ : ∃ w1 : World, (w.alloc (.cells #[.int .i64 a, .int .i64 b, .int .i64 c] 82)).drewN nq = w1 := ⟨_, rfl⟩
  rw [hw1] at k0 k1 k2 HBW c0' ⊢
  clear hw1 c0 HT
  go_wp2
  go_quiet ((go_at_call 25; exact quiet_left (wrap_v HR.out _)))
  go_wp2
  go_ret
  exact ⟨rfl, below_drewN HBW.out _⟩
set_option maxRecDepth 100000 in
set_option maxHeartbeats 1000000 in
theorem value_7y (hb : Tb B0 w p m A c' T) (a b c : Int) (h1 : a = 1) (ha1 : -128 ≤ a) (ha2 : a ≤ 128) (hb1 : -128 ≤ b) (hb2 : b ≤ 128)  :
    Calls Try.prog 119 #[.pointer (some ⟨p, 0, none⟩), .int .i64 7, .agg #[.int .i64 a, .int .i64 b, .int .i64 c]] w fun e w' => e = .returned (.int .i64 (opV T.width 7 a b c)) ∧ Below w.heap.size w w' := by
  obtain ⟨r, hr⟩ : ∃ r, opV T.width 7 a b c = r := ⟨_, rfl⟩
  rw [hr]
  have HR : Hid (wrapW T.width (a * b) = r) := by
    show _ = _
    rw [← hr]; rfl
  have e1 : (a == 1) = true := beq_iff_eq.2 h1
  have hzb : (a * b).natAbs ≤ 16384 := by rw [Int.natAbs_mul]; exact Nat.mul_le_mul (show a.natAbs ≤ 128 by omega) (show b.natAbs ≤ 128 by omega)
  obtain ⟨z, hz⟩ : ∃ z, a * b = z := ⟨_, rfl⟩
  rw [hz] at hzb HR
  have kz : IntKind.i64.wrap (a * b) = z := by rw [hz, IntKind.wrap_i64]; omega
  clear hzb hz
  obtain ⟨Q, hQ⟩ : ∃ Q, quoW T.width a b = Q := ⟨_, rfl⟩
  obtain ⟨R, hR⟩ : ∃ R, remW T.width a b = R := ⟨_, rfl⟩
  have HQ := Lib.hid hQ
  have HRM := Lib.hid hR
  have HT := Lib.hid (hb.below (below_alloc w (.cells #[.int .i64 a, .int .i64 b, .int .i64 c] 82)))
  have c0 := HT.out.cell0
  clear hb hr hQ hR h1 
  go_enter Try.func119, Try.ntmps119
  go_wp2
  go_quiet ((go_at_call 48; exact quiet_left (bdiv_v HQ.out HRM.out _)))
  have k0 : ((w.alloc (.cells #[.int .i64 a, .int .i64 b, .int .i64 c] 82)).drewN nq).cell? ⟨w.heap.size, 0, none⟩ = some (.int .i64 a) := z_cell w _ _ 0
  have k1 : ((w.alloc (.cells #[.int .i64 a, .int .i64 b, .int .i64 c] 82)).drewN nq).cell? ⟨w.heap.size, 1, none⟩ = some (.int .i64 b) := z_cell w _ _ 1
  have k2 : ((w.alloc (.cells #[.int .i64 a, .int .i64 b, .int .i64 c] 82)).drewN nq).cell? ⟨w.heap.size, 2, none⟩ = some (.int .i64 c) := z_cell w _ _ 2
  have HBW : Hid (Below w.heap.size w ((w.alloc (.cells #[.int .i64 a, .int .i64 b, .int .i64 c] 82)).drewN nq)) := below_drewN (below_alloc _ _) nq
  have c0' := (HT.out.drewN nq).cell0
  obtain ⟨w1, hw1⟩ : ∃ w1 : World, (w.alloc (.cells #[.int .i64 a, .int .i64 b, .int .i64 c] 82)).drewN nq = w1 := ⟨_, rfl⟩
  rw [hw1] at k0 k1 k2 HBW c0' ⊢
  clear hw1 c0 HT
  go_wp2
  go_quiet ((go_at_call 25; exact quiet_left (wrap_v HR.out _)))
  go_wp2
  go_ret
  exact ⟨rfl, below_drewN HBW.out _⟩
set_option maxRecDepth 100000 in
set_option maxHeartbeats 1000000 in
theorem value_8y (hb : Tb B0 w p m A c' T) (a b c : Int) (h1 : a = 1) (ha1 : -128 ≤ a) (ha2 : a ≤ 128) (hb1 : -128 ≤ b) (hb2 : b ≤ 128)  :
    Calls Try.prog 119 #[.pointer (some ⟨p, 0, none⟩), .int .i64 8, .agg #[.int .i64 a, .int .i64 b, .int .i64 c]] w fun e w' => e = .returned (.int .i64 (opV T.width 8 a b c)) ∧ Below w.heap.size w w' := by
  obtain ⟨r, hr⟩ : ∃ r, opV T.width 8 a b c = r := ⟨_, rfl⟩
  rw [hr]
  have HR : Hid (quoW T.width a b = r) := by
    show _ = _
    rw [← hr]; rfl
  have e1 : (a == 1) = true := beq_iff_eq.2 h1
  obtain ⟨Q, hQ⟩ : ∃ Q, quoW T.width a b = Q := ⟨_, rfl⟩
  obtain ⟨R, hR⟩ : ∃ R, remW T.width a b = R := ⟨_, rfl⟩
  have HQ := Lib.hid hQ
  have HRM := Lib.hid hR
  have HT := Lib.hid (hb.below (below_alloc w (.cells #[.int .i64 a, .int .i64 b, .int .i64 c] 82)))
  have c0 := HT.out.cell0
  clear hb hr hQ hR h1 
  go_enter Try.func119, Try.ntmps119
  go_wp2
  go_quiet ((go_at_call 48; exact quiet_left (bdiv_v HQ.out HRM.out _)))
  have k0 : ((w.alloc (.cells #[.int .i64 a, .int .i64 b, .int .i64 c] 82)).drewN nq).cell? ⟨w.heap.size, 0, none⟩ = some (.int .i64 a) := z_cell w _ _ 0
  have k1 : ((w.alloc (.cells #[.int .i64 a, .int .i64 b, .int .i64 c] 82)).drewN nq).cell? ⟨w.heap.size, 1, none⟩ = some (.int .i64 b) := z_cell w _ _ 1
  have k2 : ((w.alloc (.cells #[.int .i64 a, .int .i64 b, .int .i64 c] 82)).drewN nq).cell? ⟨w.heap.size, 2, none⟩ = some (.int .i64 c) := z_cell w _ _ 2
  have HBW : Hid (Below w.heap.size w ((w.alloc (.cells #[.int .i64 a, .int .i64 b, .int .i64 c] 82)).drewN nq)) := below_drewN (below_alloc _ _) nq
  have c0' := (HT.out.drewN nq).cell0
  obtain ⟨w1, hw1⟩ : ∃ w1 : World, (w.alloc (.cells #[.int .i64 a, .int .i64 b, .int .i64 c] 82)).drewN nq = w1 := ⟨_, rfl⟩
  rw [hw1] at k0 k1 k2 HBW c0' ⊢
  clear hw1 c0 HT
  go_wp2
  go_ret
  exact ⟨ret_i (by rw [← HR.out, HQ.out]), HBW.out⟩
set_option maxRecDepth 100000 in
set_option maxHeartbeats 1000000 in
theorem value_9y (hb : Tb B0 w p m A c' T) (a b c : Int) (h1 : a = 1) (ha1 : -128 ≤ a) (ha2 : a ≤ 128) (hb1 : -128 ≤ b) (hb2 : b ≤ 128)  :
    Calls Try.prog 119 #[.pointer (some ⟨p, 0, none⟩), .int .i64 9, .agg #[.int .i64 a, .int .i64 b, .int .i64 c]] w fun e w' => e = .returned (.int .i64 (opV T.width 9 a b c)) ∧ Below w.heap.size w w' := by
  obtain ⟨r, hr⟩ : ∃ r, opV T.width 9 a b c = r := ⟨_, rfl⟩
  rw [hr]
  have HR : Hid (remW T.width a b = r) := by
    show _ = _
    rw [← hr]; rfl
  have e1 : (a == 1) = true := beq_iff_eq.2 h1
  obtain ⟨Q, hQ⟩ : ∃ Q, quoW T.width a b = Q := ⟨_, rfl⟩
  obtain ⟨R, hR⟩ : ∃ R, remW T.width a b = R := ⟨_, rfl⟩
  have HQ := Lib.hid hQ
  have HRM := Lib.hid hR
  have HT := Lib.hid (hb.below (below_alloc w (.cells #[.int .i64 a, .int .i64 b, .int .i64 c] 82)))
  have c0 := HT.out.cell0
  clear hb hr hQ hR h1 
  go_enter Try.func119, Try.ntmps119
  go_wp2
  go_quiet ((go_at_call 48; exact quiet_left (bdiv_v HQ.out HRM.out _)))
  have k0 : ((w.alloc (.cells #[.int .i64 a, .int .i64 b, .int .i64 c] 82)).drewN nq).cell? ⟨w.heap.size, 0, none⟩ = some (.int .i64 a) := z_cell w _ _ 0
  have k1 : ((w.alloc (.cells #[.int .i64 a, .int .i64 b, .int .i64 c] 82)).drewN nq).cell? ⟨w.heap.size, 1, none⟩ = some (.int .i64 b) := z_cell w _ _ 1
  have k2 : ((w.alloc (.cells #[.int .i64 a, .int .i64 b, .int .i64 c] 82)).drewN nq).cell? ⟨w.heap.size, 2, none⟩ = some (.int .i64 c) := z_cell w _ _ 2
  have HBW : Hid (Below w.heap.size w ((w.alloc (.cells #[.int .i64 a, .int .i64 b, .int .i64 c] 82)).drewN nq)) := below_drewN (below_alloc _ _) nq
  have c0' := (HT.out.drewN nq).cell0
  obtain ⟨w1, hw1⟩ : ∃ w1 : World, (w.alloc (.cells #[.int .i64 a, .int .i64 b, .int .i64 c] 82)).drewN nq = w1 := ⟨_, rfl⟩
  rw [hw1] at k0 k1 k2 HBW c0' ⊢
  clear hw1 c0 HT
  go_wp2
  go_ret
  exact ⟨ret_i (by rw [← HR.out, HRM.out]), HBW.out⟩
set_option maxRecDepth 100000 in
set_option maxHeartbeats 1000000 in
theorem value_11y (hb : Tb B0 w p m A c' T) (a b c : Int) (h1 : a = 1) (ha1 : -128 ≤ a) (ha2 : a ≤ 128) (hb1 : -128 ≤ b) (hb2 : b ≤ 128)  :
    Calls Try.prog 119 #[.pointer (some ⟨p, 0, none⟩), .int .i64 11, .agg #[.int .i64 a, .int .i64 b, .int .i64 c]] w fun e w' => e = .returned (.int .i64 (opV T.width 11 a b c)) ∧ Below w.heap.size w w' := by
  obtain ⟨r, hr⟩ : ∃ r, opV T.width 11 a b c = r := ⟨_, rfl⟩
  rw [hr]
  have HR : Hid (1 - a = r) := by
    show _ = _
    rw [← hr]; rfl
  have e1 : (a == 1) = true := beq_iff_eq.2 h1
  obtain ⟨Q, hQ⟩ : ∃ Q, quoW T.width a b = Q := ⟨_, rfl⟩
  obtain ⟨R, hR⟩ : ∃ R, remW T.width a b = R := ⟨_, rfl⟩
  have HQ := Lib.hid hQ
  have HRM := Lib.hid hR
  have HT := Lib.hid (hb.below (below_alloc w (.cells #[.int .i64 a, .int .i64 b, .int .i64 c] 82)))
  have c0 := HT.out.cell0
  clear hb hr hQ hR h1 
  go_enter Try.func119, Try.ntmps119
  go_wp2
  go_quiet ((go_at_call 48; exact quiet_left (bdiv_v HQ.out HRM.out _)))
  have k0 : ((w.alloc (.cells #[.int .i64 a, .int .i64 b, .int .i64 c] 82)).drewN nq).cell? ⟨w.heap.size, 0, none⟩ = some (.int .i64 a) := z_cell w _ _ 0
  have k1 : ((w.alloc (.cells #[.int .i64 a, .int .i64 b, .int .i64 c] 82)).drewN nq).cell? ⟨w.heap.size, 1, none⟩ = some (.int .i64 b) := z_cell w _ _ 1
  have k2 : ((w.alloc (.cells #[.int .i64 a, .int .i64 b, .int .i64 c] 82)).drewN nq).cell? ⟨w.heap.size, 2, none⟩ = some (.int .i64 c) := z_cell w _ _ 2
  have HBW : Hid (Below w.heap.size w ((w.alloc (.cells #[.int .i64 a, .int .i64 b, .int .i64 c] 82)).drewN nq)) := below_drewN (below_alloc _ _) nq
  have c0' := (HT.out.drewN nq).cell0
  obtain ⟨w1, hw1⟩ : ∃ w1 : World, (w.alloc (.cells #[.int .i64 a, .int .i64 b, .int .i64 c] 82)).drewN nq = w1 := ⟨_, rfl⟩
  rw [hw1] at k0 k1 k2 HBW c0' ⊢
  clear hw1 c0 HT
  go_wp2
  go_ret
  exact ⟨ret_i HR.out, HBW.out⟩
set_option maxRecDepth 100000 in
set_option maxHeartbeats 1000000 in
theorem value_14y (hb : Tb B0 w p m A c' T) (a b c : Int) (h1 : a = 1) (ha1 : -128 ≤ a) (ha2 : a ≤ 128) (hb1 : -128 ≤ b) (hb2 : b ≤ 128)  :
    Calls Try.prog 119 #[.pointer (some ⟨p, 0, none⟩), .int .i64 14, .agg #[.int .i64 a, .int .i64 b, .int .i64 c]] w fun e w' => e = .returned (.int .i64 (opV T.width 14 a b c)) ∧ Below w.heap.size w w' := by
  obtain ⟨r, hr⟩ : ∃ r, opV T.width 14 a b c = r := ⟨_, rfl⟩
  rw [hr]
  have HR : Hid (bI (decide (a = b)) = r) := by
    show _ = _
    rw [← hr]; rfl
  have e1 : (a == 1) = true := beq_iff_eq.2 h1
  obtain ⟨be, hbe⟩ : ∃ be, decide (a = b) = be := ⟨_, rfl⟩
  have hbe1 : (a == b) = be := by rw [← hbe]; by_cases h : a = b <;> simp [h]
  rw [hbe] at HR
  clear hbe
  obtain ⟨Q, hQ⟩ : ∃ Q, quoW T.width a b = Q := ⟨_, rfl⟩
  obtain ⟨R, hR⟩ : ∃ R, remW T.width a b = R := ⟨_, rfl⟩
  have HQ := Lib.hid hQ
  have HRM := Lib.hid hR
  have HT := Lib.hid (hb.below (below_alloc w (.cells #[.int .i64 a, .int .i64 b, .int .i64 c] 82)))
  have c0 := HT.out.cell0
  clear hb hr hQ hR h1 
  go_enter Try.func119, Try.ntmps119
  go_wp2
  go_quiet ((go_at_call 48; exact quiet_left (bdiv_v HQ.out HRM.out _)))
  have k0 : ((w.alloc (.cells #[.int .i64 a, .int .i64 b, .int .i64 c] 82)).drewN nq).cell? ⟨w.heap.size, 0, none⟩ = some (.int .i64 a) := z_cell w _ _ 0
  have k1 : ((w.alloc (.cells #[.int .i64 a, .int .i64 b, .int .i64 c] 82)).drewN nq).cell? ⟨w.heap.size, 1, none⟩ = some (.int .i64 b) := z_cell w _ _ 1
  have k2 : ((w.alloc (.cells #[.int .i64 a, .int .i64 b, .int .i64 c] 82)).drewN nq).cell? ⟨w.heap.size, 2, none⟩ = some (.int .i64 c) := z_cell w _ _ 2
  have HBW : Hid (Below w.heap.size w ((w.alloc (.cells #[.int .i64 a, .int .i64 b, .int .i64 c] 82)).drewN nq)) := below_drewN (below_alloc _ _) nq
  have c0' := (HT.out.drewN nq).cell0
  obtain ⟨w1, hw1⟩ : ∃ w1 : World, (w.alloc (.cells #[.int .i64 a, .int .i64 b, .int .i64 c] 82)).drewN nq = w1 := ⟨_, rfl⟩
  rw [hw1] at k0 k1 k2 HBW c0' ⊢
  clear hw1 c0 HT
  go_wp2_with (go_at_call 162; go_must (refine (truth_v HR.out _).mono ?_; rintro e w9 ⟨rfl, rfl⟩))
  go_ret
  exact ⟨rfl, HBW.out⟩
set_option maxRecDepth 100000 in
set_option maxHeartbeats 1000000 in
theorem value_16y (hb : Tb B0 w p m A c' T) (a b c : Int) (h1 : a = 1) (ha1 : -128 ≤ a) (ha2 : a ≤ 128) (hb1 : -128 ≤ b) (hb2 : b ≤ 128)  :
    Calls Try.prog 119 #[.pointer (some ⟨p, 0, none⟩), .int .i64 16, .agg #[.int .i64 a, .int .i64 b, .int .i64 c]] w fun e w' => e = .returned (.int .i64 (opV T.width 16 a b c)) ∧ Below w.heap.size w w' := by
  obtain ⟨r, hr⟩ : ∃ r, opV T.width 16 a b c = r := ⟨_, rfl⟩
  rw [hr]
  have HR : Hid (bI (decide (a = b)) = r) := by
    show _ = _
    rw [← hr]; rfl
  have e1 : (a == 1) = true := beq_iff_eq.2 h1
  obtain ⟨be, hbe⟩ : ∃ be, decide (a = b) = be := ⟨_, rfl⟩
  have hbe1 : (a == b) = be := by rw [← hbe]; by_cases h : a = b <;> simp [h]
  rw [hbe] at HR
  clear hbe
  obtain ⟨Q, hQ⟩ : ∃ Q, quoW T.width a b = Q := ⟨_, rfl⟩
  obtain ⟨R, hR⟩ : ∃ R, remW T.width a b = R := ⟨_, rfl⟩
  have HQ := Lib.hid hQ
  have HRM := Lib.hid hR
  have HT := Lib.hid (hb.below (below_alloc w (.cells #[.int .i64 a, .int .i64 b, .int .i64 c] 82)))
  have c0 := HT.out.cell0
  clear hb hr hQ hR h1 
  go_enter Try.func119, Try.ntmps119
  go_wp2
  go_quiet ((go_at_call 48; exact quiet_left (bdiv_v HQ.out HRM.out _)))
  have k0 : ((w.alloc (.cells #[.int .i64 a, .int .i64 b, .int .i64 c] 82)).drewN nq).cell? ⟨w.heap.size, 0, none⟩ = some (.int .i64 a) := z_cell w _ _ 0
  have k1 : ((w.alloc (.cells #[.int .i64 a, .int .i64 b, .int .i64 c] 82)).drewN nq).cell? ⟨w.heap.size, 1, none⟩ = some (.int .i64 b) := z_cell w _ _ 1
  have k2 : ((w.alloc (.cells #[.int .i64 a, .int .i64 b, .int .i64 c] 82)).drewN nq).cell? ⟨w.heap.size, 2, none⟩ = some (.int .i64 c) := z_cell w _ _ 2
  have HBW : Hid (Below w.heap.size w ((w.alloc (.cells #[.int .i64 a, .int .i64 b, .int .i64 c] 82)).drewN nq)) := below_drewN (below_alloc _ _) nq
  have c0' := (HT.out.drewN nq).cell0
  obtain ⟨w1, hw1⟩ : ∃ w1 : World, (w.alloc (.cells #[.int .i64 a, .int .i64 b, .int .i64 c] 82)).drewN nq = w1 := ⟨_, rfl⟩
  rw [hw1] at k0 k1 k2 HBW c0' ⊢
  clear hw1 c0 HT
  go_wp2_with (go_at_call 162; go_must (refine (truth_v HR.out _).mono ?_; rintro e w9 ⟨rfl, rfl⟩))
  go_ret
  exact ⟨rfl, HBW.out⟩
set_option maxRecDepth 100000 in
set_option maxHeartbeats 1000000 in
theorem value_17y (hb : Tb B0 w p m A c' T) (a b c : Int) (h1 : a = 1) (ha1 : -128 ≤ a) (ha2 : a ≤ 128) (hb1 : -128 ≤ b) (hb2 : b ≤ 128)  :
    Calls Try.prog 119 #[.pointer (some ⟨p, 0, none⟩), .int .i64 17, .agg #[.int .i64 a, .int .i64 b, .int .i64 c]] w fun e w' => e = .returned (.int .i64 (opV T.width 17 a b c)) ∧ Below w.heap.size w w' := by
  obtain ⟨r, hr⟩ : ∃ r, opV T.width 17 a b c = r := ⟨_, rfl⟩
  rw [hr]
  have HR : Hid (bI (decide (a < b)) = r) := by
    show _ = _
    rw [← hr]; rfl
  have e1 : (a == 1) = true := beq_iff_eq.2 h1
  obtain ⟨be, hbe⟩ : ∃ be, decide (a < b) = be := ⟨_, rfl⟩
  rw [hbe] at HR
  obtain ⟨Q, hQ⟩ : ∃ Q, quoW T.width a b = Q := ⟨_, rfl⟩
  obtain ⟨R, hR⟩ : ∃ R, remW T.width a b = R := ⟨_, rfl⟩
  have HQ := Lib.hid hQ
  have HRM := Lib.hid hR
  have HT := Lib.hid (hb.below (below_alloc w (.cells #[.int .i64 a, .int .i64 b, .int .i64 c] 82)))
  have c0 := HT.out.cell0
  clear hb hr hQ hR h1 
  go_enter Try.func119, Try.ntmps119
  go_wp2
  go_quiet ((go_at_call 48; exact quiet_left (bdiv_v HQ.out HRM.out _)))
  have k0 : ((w.alloc (.cells #[.int .i64 a, .int .i64 b, .int .i64 c] 82)).drewN nq).cell? ⟨w.heap.size, 0, none⟩ = some (.int .i64 a) := z_cell w _ _ 0
  have k1 : ((w.alloc (.cells #[.int .i64 a, .int .i64 b, .int .i64 c] 82)).drewN nq).cell? ⟨w.heap.size, 1, none⟩ = some (.int .i64 b) := z_cell w _ _ 1
  have k2 : ((w.alloc (.cells #[.int .i64 a, .int .i64 b, .int .i64 c] 82)).drewN nq).cell? ⟨w.heap.size, 2, none⟩ = some (.int .i64 c) := z_cell w _ _ 2
  have HBW : Hid (Below w.heap.size w ((w.alloc (.cells #[.int .i64 a, .int .i64 b, .int .i64 c] 82)).drewN nq)) := below_drewN (below_alloc _ _) nq
  have c0' := (HT.out.drewN nq).cell0
  obtain ⟨w1, hw1⟩ : ∃ w1 : World, (w.alloc (.cells #[.int .i64 a, .int .i64 b, .int .i64 c] 82)).drewN nq = w1 := ⟨_, rfl⟩
  rw [hw1] at k0 k1 k2 HBW c0' ⊢
  clear hw1 c0 HT
  go_wp2_with (go_at_call 162; go_must (refine (truth_v HR.out _).mono ?_; rintro e w9 ⟨rfl, rfl⟩))
  go_ret
  exact ⟨rfl, HBW.out⟩
set_option maxRecDepth 100000 in
set_option maxHeartbeats 1000000 in
theorem value_10y (hb : Tb B0 w p m A c' T) (a b c : Int) (h1 : a = 1) (ha1 : -128 ≤ a) (ha2 : a ≤ 128) (hb1 : -128 ≤ b) (hb2 : b ≤ 128)  :
    Calls Try.prog 119 #[.pointer (some ⟨p, 0, none⟩), .int .i64 10, .agg #[.int .i64 a, .int .i64 b, .int .i64 c]] w fun e w' => e = .returned (.int .i64 (opV T.width 10 a b c)) ∧ Below w.heap.size w w' := by
  obtain ⟨r, hr⟩ : ∃ r, opV T.width 10 a b c = r := ⟨_, rfl⟩
  rw [hr]
  have HR : Hid (b = r) := by
    show _ = _
    rw [← hr]; exact (if_pos h1).symm
  have e1 : (a == 1) = true := beq_iff_eq.2 h1
  obtain ⟨Q, hQ⟩ : ∃ Q, quoW T.width a b = Q := ⟨_, rfl⟩
  obtain ⟨R, hR⟩ : ∃ R, remW T.width a b = R := ⟨_, rfl⟩
  have HQ := Lib.hid hQ
  have HRM := Lib.hid hR
  have HT := Lib.hid (hb.below (below_alloc w (.cells #[.int .i64 a, .int .i64 b, .int .i64 c] 82)))
  have c0 := HT.out.cell0
  clear hb hr hQ hR h1 
  go_enter Try.func119, Try.ntmps119
  go_wp2
  go_quiet ((go_at_call 48; exact quiet_left (bdiv_v HQ.out HRM.out _)))
  have k0 : ((w.alloc (.cells #[.int .i64 a, .int .i64 b, .int .i64 c] 82)).drewN nq).cell? ⟨w.heap.size, 0, none⟩ = some (.int .i64 a) := z_cell w _ _ 0
  have k1 : ((w.alloc (.cells #[.int .i64 a, .int .i64 b, .int .i64 c] 82)).drewN nq).cell? ⟨w.heap.size, 1, none⟩ = some (.int .i64 b) := z_cell w _ _ 1
  have k2 : ((w.alloc (.cells #[.int .i64 a, .int .i64 b, .int .i64 c] 82)).drewN nq).cell? ⟨w.heap.size, 2, none⟩ = some (.int .i64 c) := z_cell w _ _ 2
  have HBW : Hid (Below w.heap.size w ((w.alloc (.cells #[.int .i64 a, .int .i64 b, .int .i64 c] 82)).drewN nq)) := below_drewN (below_alloc _ _) nq
  have c0' := (HT.out.drewN nq).cell0
  obtain ⟨w1, hw1⟩ : ∃ w1 : World, (w.alloc (.cells #[.int .i64 a, .int .i64 b, .int .i64 c] 82)).drewN nq = w1 := ⟨_, rfl⟩
  rw [hw1] at k0 k1 k2 HBW c0' ⊢
  clear hw1 c0 HT
  go_wp2
  go_ret
  exact ⟨ret_i HR.out, HBW.out⟩
set_option maxRecDepth 100000 in
set_option maxHeartbeats 1000000 in
theorem value_15y (hb : Tb B0 w p m A c' T) (a b c : Int) (h1 : a = 1) (ha1 : -128 ≤ a) (ha2 : a ≤ 128) (hb1 : -128 ≤ b) (hb2 : b ≤ 128)  :
    Calls Try.prog 119 #[.pointer (some ⟨p, 0, none⟩), .int .i64 15, .agg #[.int .i64 a, .int .i64 b, .int .i64 c]] w fun e w' => e = .returned (.int .i64 (opV T.width 15 a b c)) ∧ Below w.heap.size w w' := by
  obtain ⟨r, hr⟩ : ∃ r, opV T.width 15 a b c = r := ⟨_, rfl⟩
  rw [hr]
  have HR : Hid (b = r) := by
    show _ = _
    rw [← hr]; exact (if_pos h1).symm
  have e1 : (a == 1) = true := beq_iff_eq.2 h1
  obtain ⟨Q, hQ⟩ : ∃ Q, quoW T.width a b = Q := ⟨_, rfl⟩
  obtain ⟨R, hR⟩ : ∃ R, remW T.width a b = R := ⟨_, rfl⟩
  have HQ := Lib.hid hQ
  have HRM := Lib.hid hR
  have HT := Lib.hid (hb.below (below_alloc w (.cells #[.int .i64 a, .int .i64 b, .int .i64 c] 82)))
  have c0 := HT.out.cell0
  clear hb hr hQ hR h1 
  go_enter Try.func119, Try.ntmps119
  go_wp2
  go_quiet ((go_at_call 48; exact quiet_left (bdiv_v HQ.out HRM.out _)))
  have k0 : ((w.alloc (.cells #[.int .i64 a, .int .i64 b, .int .i64 c] 82)).drewN nq).cell? ⟨w.heap.size, 0, none⟩ = some (.int .i64 a) := z_cell w _ _ 0
  have k1 : ((w.alloc (.cells #[.int .i64 a, .int .i64 b, .int .i64 c] 82)).drewN nq).cell? ⟨w.heap.size, 1, none⟩ = some (.int .i64 b) := z_cell w _ _ 1
  have k2 : ((w.alloc (.cells #[.int .i64 a, .int .i64 b, .int .i64 c] 82)).drewN nq).cell? ⟨w.heap.size, 2, none⟩ = some (.int .i64 c) := z_cell w _ _ 2
  have HBW : Hid (Below w.heap.size w ((w.alloc (.cells #[.int .i64 a, .int .i64 b, .int .i64 c] 82)).drewN nq)) := below_drewN (below_alloc _ _) nq
  have c0' := (HT.out.drewN nq).cell0
  obtain ⟨w1, hw1⟩ : ∃ w1 : World, (w.alloc (.cells #[.int .i64 a, .int .i64 b, .int .i64 c] 82)).drewN nq = w1 := ⟨_, rfl⟩
  rw [hw1] at k0 k1 k2 HBW c0' ⊢
  clear hw1 c0 HT
  go_wp2
  go_ret
  exact ⟨ret_i HR.out, HBW.out⟩
set_option maxRecDepth 100000 in
set_option maxHeartbeats 1000000 in
theorem value_12_00 (hb : Tb B0 w p m A c' T) (c : Int) :
    Calls Try.prog 119 #[.pointer (some ⟨p, 0, none⟩), .int .i64 12, .agg #[.int .i64 0, .int .i64 0, .int .i64 c]] w fun e w' => e = .returned (.int .i64 0) ∧ Below w.heap.size w w' := by
  have kb : bits .and .i64 0 0 = 0 := by decide
  obtain ⟨Q, hQ⟩ : ∃ Q, quoW T.width 0 0 = Q := ⟨_, rfl⟩
  obtain ⟨R, hR⟩ : ∃ R, remW T.width 0 0 = R := ⟨_, rfl⟩
  have HQ := Lib.hid hQ
  have HRM := Lib.hid hR
  have HT := Lib.hid (hb.below (below_alloc w (.cells #[.int .i64 0, .int .i64 0, .int .i64 c] 82)))
  have c0 := HT.out.cell0
  clear hb hQ hR
  go_enter Try.func119, Try.ntmps119
  go_wp2
  go_quiet ((go_at_call 48; exact quiet_left (bdiv_v HQ.out HRM.out _)))
  have k0 : ((w.alloc (.cells #[.int .i64 0, .int .i64 0, .int .i64 c] 82)).drewN nq).cell? ⟨w.heap.size, 0, none⟩ = some (.int .i64 0) := z_cell w _ _ 0
  have k1 : ((w.alloc (.cells #[.int .i64 0, .int .i64 0, .int .i64 c] 82)).drewN nq).cell? ⟨w.heap.size, 1, none⟩ = some (.int .i64 0) := z_cell w _ _ 1
  have k2 : ((w.alloc (.cells #[.int .i64 0, .int .i64 0, .int .i64 c] 82)).drewN nq).cell? ⟨w.heap.size, 2, none⟩ = some (.int .i64 c) := z_cell w _ _ 2
  have HBW : Hid (Below w.heap.size w ((w.alloc (.cells #[.int .i64 0, .int .i64 0, .int .i64 c] 82)).drewN nq)) := below_drewN (below_alloc _ _) nq
  obtain ⟨w1, hw1⟩ : ∃ w1 : World, (w.alloc (.cells #[.int .i64 0, .int .i64 0, .int .i64 c] 82)).drewN nq = w1 := ⟨_, rfl⟩
  rw [hw1] at k0 k1 k2 HBW ⊢
  clear hw1 c0 HT
  go_wp2
  go_ret
  exact ⟨rfl, HBW.out⟩
set_option maxRecDepth 100000 in
set_option maxHeartbeats 1000000 in
theorem value_12_01 (hb : Tb B0 w p m A c' T) (c : Int) :
    Calls Try.prog 119 #[.pointer (some ⟨p, 0, none⟩), .int .i64 12, .agg #[.int .i64 0, .int .i64 1, .int .i64 c]] w fun e w' => e = .returned (.int .i64 0) ∧ Below w.heap.size w w' := by
  have kb : bits .and .i64 0 1 = 0 := by decide
  obtain ⟨Q, hQ⟩ : ∃ Q, quoW T.width 0 1 = Q := ⟨_, rfl⟩
  obtain ⟨R, hR⟩ : ∃ R, remW T.width 0 1 = R := ⟨_, rfl⟩
  have HQ := Lib.hid hQ
  have HRM := Lib.hid hR
  have HT := Lib.hid (hb.below (below_alloc w (.cells #[.int .i64 0, .int .i64 1, .int .i64 c] 82)))
  have c0 := HT.out.cell0
  clear hb hQ hR
  go_enter Try.func119, Try.ntmps119
  go_wp2
  go_quiet ((go_at_call 48; exact quiet_left (bdiv_v HQ.out HRM.out _)))
  have k0 : ((w.alloc (.cells #[.int .i64 0, .int .i64 1, .int .i64 c] 82)).drewN nq).cell? ⟨w.heap.size, 0, none⟩ = some (.int .i64 0) := z_cell w _ _ 0
  have k1 : ((w.alloc (.cells #[.int .i64 0, .int .i64 1, .int .i64 c] 82)).drewN nq).cell? ⟨w.heap.size, 1, none⟩ = some (.int .i64 1) := z_cell w _ _ 1
  have k2 : ((w.alloc (.cells #[.int .i64 0, .int .i64 1, .int .i64 c] 82)).drewN nq).cell? ⟨w.heap.size, 2, none⟩ = some (.int .i64 c) := z_cell w _ _ 2
  have HBW : Hid (Below w.heap.size w ((w.alloc (.cells #[.int .i64 0, .int .i64 1, .int .i64 c] 82)).drewN nq)) := below_drewN (below_alloc _ _) nq
  obtain ⟨w1, hw1⟩ : ∃ w1 : World, (w.alloc (.cells #[.int .i64 0, .int .i64 1, .int .i64 c] 82)).drewN nq = w1 := ⟨_, rfl⟩
  rw [hw1] at k0 k1 k2 HBW ⊢
  clear hw1 c0 HT
  go_wp2
  go_ret
  exact ⟨rfl, HBW.out⟩
set_option maxRecDepth 100000 in
set_option maxHeartbeats 1000000 in
theorem value_12_10 (hb : Tb B0 w p m A c' T) (c : Int) :
    Calls Try.prog 119 #[.pointer (some ⟨p, 0, none⟩), .int .i64 12, .agg #[.int .i64 1, .int .i64 0, .int .i64 c]] w fun e w' => e = .returned (.int .i64 0) ∧ Below w.heap.size w w' := by
  have kb : bits .and .i64 1 0 = 0 := by decide
  obtain ⟨Q, hQ⟩ : ∃ Q, quoW T.width 1 0 = Q := ⟨_, rfl⟩
  obtain ⟨R, hR⟩ : ∃ R, remW T.width 1 0 = R := ⟨_, rfl⟩
  have HQ := Lib.hid hQ
  have HRM := Lib.hid hR
  have HT := Lib.hid (hb.below (below_alloc w (.cells #[.int .i64 1, .int .i64 0, .int .i64 c] 82)))
  have c0 := HT.out.cell0
  clear hb hQ hR
  go_enter Try.func119, Try.ntmps119
  go_wp2
  go_quiet ((go_at_call 48; exact quiet_left (bdiv_v HQ.out HRM.out _)))
  have k0 : ((w.alloc (.cells #[.int .i64 1, .int .i64 0, .int .i64 c] 82)).drewN nq).cell? ⟨w.heap.size, 0, none⟩ = some (.int .i64 1) := z_cell w _ _ 0
  have k1 : ((w.alloc (.cells #[.int .i64 1, .int .i64 0, .int .i64 c] 82)).drewN nq).cell? ⟨w.heap.size, 1, none⟩ = some (.int .i64 0) := z_cell w _ _ 1
  have k2 : ((w.alloc (.cells #[.int .i64 1, .int .i64 0, .int .i64 c] 82)).drewN nq).cell? ⟨w.heap.size, 2, none⟩ = some (.int .i64 c) := z_cell w _ _ 2
  have HBW : Hid (Below w.heap.size w ((w.alloc (.cells #[.int .i64 1, .int .i64 0, .int .i64 c] 82)).drewN nq)) := below_drewN (below_alloc _ _) nq
  obtain ⟨w1, hw1⟩ : ∃ w1 : World, (w.alloc (.cells #[.int .i64 1, .int .i64 0, .int .i64 c] 82)).drewN nq = w1 := ⟨_, rfl⟩
  rw [hw1] at k0 k1 k2 HBW ⊢
  clear hw1 c0 HT
  go_wp2
  go_ret
  exact ⟨rfl, HBW.out⟩
set_option maxRecDepth 100000 in
set_option maxHeartbeats 1000000 in
theorem value_12_11 (hb : Tb B0 w p m A c' T) (c : Int) :
    Calls Try.prog 119 #[.pointer (some ⟨p, 0, none⟩), .int .i64 12, .agg #[.int .i64 1, .int .i64 1, .int .i64 c]] w fun e w' => e = .returned (.int .i64 1) ∧ Below w.heap.size w w' := by
  have kb : bits .and .i64 1 1 = 1 := by decide
  obtain ⟨Q, hQ⟩ : ∃ Q, quoW T.width 1 1 = Q := ⟨_, rfl⟩
  obtain ⟨R, hR⟩ : ∃ R, remW T.width 1 1 = R := ⟨_, rfl⟩
  have HQ := Lib.hid hQ
  have HRM := Lib.hid hR
  have HT := Lib.hid (hb.below (below_alloc w (.cells #[.int .i64 1, .int .i64 1, .int .i64 c] 82)))
  have c0 := HT.out.cell0
  clear hb hQ hR
  go_enter Try.func119, Try.ntmps119
  go_wp2
  go_quiet ((go_at_call 48; exact quiet_left (bdiv_v HQ.out HRM.out _)))
  have k0 : ((w.alloc (.cells #[.int .i64 1, .int .i64 1, .int .i64 c] 82)).drewN nq).cell? ⟨w.heap.size, 0, none⟩ = some (.int .i64 1) := z_cell w _ _ 0
  have k1 : ((w.alloc (.cells #[.int .i64 1, .int .i64 1, .int .i64 c] 82)).drewN nq).cell? ⟨w.heap.size, 1, none⟩ = some (.int .i64 1) := z_cell w _ _ 1
  have k2 : ((w.alloc (.cells #[.int .i64 1, .int .i64 1, .int .i64 c] 82)).drewN nq).cell? ⟨w.heap.size, 2, none⟩ = some (.int .i64 c) := z_cell w _ _ 2
  have HBW : Hid (Below w.heap.size w ((w.alloc (.cells #[.int .i64 1, .int .i64 1, .int .i64 c] 82)).drewN nq)) := below_drewN (below_alloc _ _) nq
  obtain ⟨w1, hw1⟩ : ∃ w1 : World, (w.alloc (.cells #[.int .i64 1, .int .i64 1, .int .i64 c] 82)).drewN nq = w1 := ⟨_, rfl⟩
  rw [hw1] at k0 k1 k2 HBW ⊢
  clear hw1 c0 HT
  go_wp2
  go_ret
  exact ⟨rfl, HBW.out⟩
set_option maxRecDepth 100000 in
set_option maxHeartbeats 1000000 in
theorem value_13_00 (hb : Tb B0 w p m A c' T) (c : Int) :
    Calls Try.prog 119 #[.pointer (some ⟨p, 0, none⟩), .int .i64 13, .agg #[.int .i64 0, .int .i64 0, .int .i64 c]] w fun e w' => e = .returned (.int .i64 0) ∧ Below w.heap.size w w' := by
  have kb : bits .or .i64 0 0 = 0 := by decide
  obtain ⟨Q, hQ⟩ : ∃ Q, quoW T.width 0 0 = Q := ⟨_, rfl⟩
  obtain ⟨R, hR⟩ : ∃ R, remW T.width 0 0 = R := ⟨_, rfl⟩
  have HQ := Lib.hid hQ
  have HRM := Lib.hid hR
  have HT := Lib.hid (hb.below (below_alloc w (.cells #[.int .i64 0, .int .i64 0, .int .i64 c] 82)))
  have c0 := HT.out.cell0
  clear hb hQ hR
  go_enter Try.func119, Try.ntmps119
  go_wp2
  go_quiet ((go_at_call 48; exact quiet_left (bdiv_v HQ.out HRM.out _)))
  have k0 : ((w.alloc (.cells #[.int .i64 0, .int .i64 0, .int .i64 c] 82)).drewN nq).cell? ⟨w.heap.size, 0, none⟩ = some (.int .i64 0) := z_cell w _ _ 0
  have k1 : ((w.alloc (.cells #[.int .i64 0, .int .i64 0, .int .i64 c] 82)).drewN nq).cell? ⟨w.heap.size, 1, none⟩ = some (.int .i64 0) := z_cell w _ _ 1
  have k2 : ((w.alloc (.cells #[.int .i64 0, .int .i64 0, .int .i64 c] 82)).drewN nq).cell? ⟨w.heap.size, 2, none⟩ = some (.int .i64 c) := z_cell w _ _ 2
  have HBW : Hid (Below w.heap.size w ((w.alloc (.cells #[.int .i64 0, .int .i64 0, .int .i64 c] 82)).drewN nq)) := below_drewN (below_alloc _ _) nq
  obtain ⟨w1, hw1⟩ : ∃ w1 : World, (w.alloc (.cells #[.int .i64 0, .int .i64 0, .int .i64 c] 82)).drewN nq = w1 := ⟨_, rfl⟩
  rw [hw1] at k0 k1 k2 HBW ⊢
  clear hw1 c0 HT
  go_wp2
  go_ret
  exact ⟨rfl, HBW.out⟩
set_option maxRecDepth 100000 in
set_option maxHeartbeats 1000000 in
theorem value_13_01 (hb : Tb B0 w p m A c' T) (c : Int) :
    Calls Try.prog 119 #[.pointer (some ⟨p, 0, none⟩), .int .i64 13, .agg #[.int .i64 0, .int .i64 1, .int .i64 c]] w fun e w' => e = .returned (.int .i64 1) ∧ Below w.heap.size w w' := by
  have kb : bits .or .i64 0 1 = 1 := by decide
  obtain ⟨Q, hQ⟩ : ∃ Q, quoW T.width 0 1 = Q := ⟨_, rfl⟩
  obtain ⟨R, hR⟩ : ∃ R, remW T.width 0 1 = R := ⟨_, rfl⟩
  have HQ := Lib.hid hQ
  have HRM := Lib.hid hR
  have HT := Lib.hid (hb.below (below_alloc w (.cells #[.int .i64 0, .int .i64 1, .int .i64 c] 82)))
  have c0 := HT.out.cell0
  clear hb hQ hR
  go_enter Try.func119, Try.ntmps119
  go_wp2
  go_quiet ((go_at_call 48; exact quiet_left (bdiv_v HQ.out HRM.out _)))
  have k0 : ((w.alloc (.cells #[.int .i64 0, .int .i64 1, .int .i64 c] 82)).drewN nq).cell? ⟨w.heap.size, 0, none⟩ = some (.int .i64 0) := z_cell w _ _ 0
  have k1 : ((w.alloc (.cells #[.int .i64 0, .int .i64 1, .int .i64 c] 82)).drewN nq).cell? ⟨w.heap.size, 1, none⟩ = some (.int .i64 1) := z_cell w _ _ 1
  have k2 : ((w.alloc (.cells #[.int .i64 0, .int .i64 1, .int .i64 c] 82)).drewN nq).cell? ⟨w.heap.size, 2, none⟩ = some (.int .i64 c) := z_cell w _ _ 2
  have HBW : Hid (Below w.heap.size w ((w.alloc (.cells #[.int .i64 0, .int .i64 1, .int .i64 c] 82)).drewN nq)) := below_drewN (below_alloc _ _) nq
  obtain ⟨w1, hw1⟩ : ∃ w1 : World, (w.alloc (.cells #[.int .i64 0, .int .i64 1, .int .i64 c] 82)).drewN nq = w1 := ⟨_, rfl⟩
  rw [hw1] at k0 k1 k2 HBW ⊢
  clear hw1 c0 HT
  go_wp2
  go_ret
  exact ⟨rfl, HBW.out⟩
set_option maxRecDepth 100000 in
set_option maxHeartbeats 1000000 in
theorem value_13_10 (hb : Tb B0 w p m A c' T) (c : Int) :
    Calls Try.prog 119 #[.pointer (some ⟨p, 0, none⟩), .int .i64 13, .agg #[.int .i64 1, .int .i64 0, .int .i64 c]] w fun e w' => e = .returned (.int .i64 1) ∧ Below w.heap.size w w' := by
  have kb : bits .or .i64 1 0 = 1 := by decide
  obtain ⟨Q, hQ⟩ : ∃ Q, quoW T.width 1 0 = Q := ⟨_, rfl⟩
  obtain ⟨R, hR⟩ : ∃ R, remW T.width 1 0 = R := ⟨_, rfl⟩
  have HQ := Lib.hid hQ
  have HRM := Lib.hid hR
  have HT := Lib.hid (hb.below (below_alloc w (.cells #[.int .i64 1, .int .i64 0, .int .i64 c] 82)))
  have c0 := HT.out.cell0
  clear hb hQ hR
  go_enter Try.func119, Try.ntmps119
  go_wp2
  go_quiet ((go_at_call 48; exact quiet_left (bdiv_v HQ.out HRM.out _)))
  have k0 : ((w.alloc (.cells #[.int .i64 1, .int .i64 0, .int .i64 c] 82)).drewN nq).cell? ⟨w.heap.size, 0, none⟩ = some (.int .i64 1) := z_cell w _ _ 0
  have k1 : ((w.alloc (.cells #[.int .i64 1, .int .i64 0, .int .i64 c] 82)).drewN nq).cell? ⟨w.heap.size, 1, none⟩ = some (.int .i64 0) := z_cell w _ _ 1
  have k2 : ((w.alloc (.cells #[.int .i64 1, .int .i64 0, .int .i64 c] 82)).drewN nq).cell? ⟨w.heap.size, 2, none⟩ = some (.int .i64 c) := z_cell w _ _ 2
  have HBW : Hid (Below w.heap.size w ((w.alloc (.cells #[.int .i64 1, .int .i64 0, .int .i64 c] 82)).drewN nq)) := below_drewN (below_alloc _ _) nq
  obtain ⟨w1, hw1⟩ : ∃ w1 : World, (w.alloc (.cells #[.int .i64 1, .int .i64 0, .int .i64 c] 82)).drewN nq = w1 := ⟨_, rfl⟩
  rw [hw1] at k0 k1 k2 HBW ⊢
  clear hw1 c0 HT
  go_wp2
  go_ret
  exact ⟨rfl, HBW.out⟩
set_option maxRecDepth 100000 in
set_option maxHeartbeats 1000000 in
theorem value_13_11 (hb : Tb B0 w p m A c' T) (c : Int) :
    Calls Try.prog 119 #[.pointer (some ⟨p, 0, none⟩), .int .i64 13, .agg #[.int .i64 1, .int .i64 1, .int .i64 c]] w fun e w' => e = .returned (.int .i64 1) ∧ Below w.heap.size w w' := by
  have kb : bits .or .i64 1 1 = 1 := by decide
  obtain ⟨Q, hQ⟩ : ∃ Q, quoW T.width 1 1 = Q := ⟨_, rfl⟩
  obtain ⟨R, hR⟩ : ∃ R, remW T.width 1 1 = R := ⟨_, rfl⟩
  have HQ := Lib.hid hQ
  have HRM := Lib.hid hR
  have HT := Lib.hid (hb.below (below_alloc w (.cells #[.int .i64 1, .int .i64 1, .int .i64 c] 82)))
  have c0 := HT.out.cell0
  clear hb hQ hR
  go_enter Try.func119, Try.ntmps119
  go_wp2
  go_quiet ((go_at_call 48; exact quiet_left (bdiv_v HQ.out HRM.out _)))
  have k0 : ((w.alloc (.cells #[.int .i64 1, .int .i64 1, .int .i64 c] 82)).drewN nq).cell? ⟨w.heap.size, 0, none⟩ = some (.int .i64 1) := z_cell w _ _ 0
  have k1 : ((w.alloc (.cells #[.int .i64 1, .int .i64 1, .int .i64 c] 82)).drewN nq).cell? ⟨w.heap.size, 1, none⟩ = some (.int .i64 1) := z_cell w _ _ 1
  have k2 : ((w.alloc (.cells #[.int .i64 1, .int .i64 1, .int .i64 c] 82)).drewN nq).cell? ⟨w.heap.size, 2, none⟩ = some (.int .i64 c) := z_cell w _ _ 2
  have HBW : Hid (Below w.heap.size w ((w.alloc (.cells #[.int .i64 1, .int .i64 1, .int .i64 c] 82)).drewN nq)) := below_drewN (below_alloc _ _) nq
  obtain ⟨w1, hw1⟩ : ∃ w1 : World, (w.alloc (.cells #[.int .i64 1, .int .i64 1, .int .i64 c] 82)).drewN nq = w1 := ⟨_, rfl⟩
  rw [hw1] at k0 k1 k2 HBW ⊢
  clear hw1 c0 HT
  go_wp2
  go_ret
  exact ⟨rfl, HBW.out⟩

/-- What the arguments of an operator are: the first two of AND and OR are 0 or 1. -/
theorem tvalue_any (hb : Tb B0 w p m A c' T) (o : Int) (ho : 4 ≤ o) (ho2 : o ≤ 17) (a b c : Int) (ha1 : -128 ≤ a) (ha2 : a ≤ 128) (hb1 : -128 ≤ b) (hb2 : b ≤ 128) (h01 : o = 12 ∨ o = 13 → (a = 0 ∨ a = 1) ∧ (b = 0 ∨ b = 1)) :
    Calls Try.prog 119 #[.pointer (some ⟨p, 0, none⟩), .int .i64 o, .agg #[.int .i64 a, .int .i64 b, .int .i64 c]] w fun e w' => e = .returned (.int .i64 (opV T.width o a b c)) ∧ Below w.heap.size w w' := by
  obtain rfl | rfl | rfl | rfl | rfl | rfl | rfl | rfl | rfl | rfl | rfl | rfl | rfl | rfl : o = 4 ∨ o = 5 ∨ o = 6 ∨ o = 7 ∨ o = 8 ∨ o = 9 ∨ o = 10 ∨ o = 11 ∨ o = 12 ∨ o = 13 ∨ o = 14 ∨ o = 15 ∨ o = 16 ∨ o = 17 := by omega
  · by_cases h1 : a = 1
    · exact value_4y hb a b c h1 ha1 ha2 hb1 hb2
    · exact value_4n hb a b c h1 ha1 ha2 hb1 hb2
  · by_cases h1 : a = 1
    · exact value_5y hb a b c h1 ha1 ha2 hb1 hb2
    · exact value_5n hb a b c h1 ha1 ha2 hb1 hb2
  · by_cases h1 : a = 1
    · exact value_6y hb a b c h1 ha1 ha2 hb1 hb2
    · exact value_6n hb a b c h1 ha1 ha2 hb1 hb2
  · by_cases h1 : a = 1
    · exact value_7y hb a b c h1 ha1 ha2 hb1 hb2
    · exact value_7n hb a b c h1 ha1 ha2 hb1 hb2
  · by_cases h1 : a = 1
    · exact value_8y hb a b c h1 ha1 ha2 hb1 hb2
    · exact value_8n hb a b c h1 ha1 ha2 hb1 hb2
  · by_cases h1 : a = 1
    · exact value_9y hb a b c h1 ha1 ha2 hb1 hb2
    · exact value_9n hb a b c h1 ha1 ha2 hb1 hb2
  · by_cases h1 : a = 1
    · exact value_10y hb a b c h1 ha1 ha2 hb1 hb2
    · exact value_10n hb a b c h1 ha1 ha2 hb1 hb2
  · by_cases h1 : a = 1
    · exact value_11y hb a b c h1 ha1 ha2 hb1 hb2
    · exact value_11n hb a b c h1 ha1 ha2 hb1 hb2
  · obtain ⟨h1 | h1, h2 | h2⟩ := h01 (by omega) <;> subst h1 h2
    · exact value_12_00 hb c
    · exact value_12_01 hb c
    · exact value_12_10 hb c
    · exact value_12_11 hb c
  · obtain ⟨h1 | h1, h2 | h2⟩ := h01 (by omega) <;> subst h1 h2
    · exact value_13_00 hb c
    · exact value_13_01 hb c
    · exact value_13_10 hb c
    · exact value_13_11 hb c
  · by_cases h1 : a = 1
    · exact value_14y hb a b c h1 ha1 ha2 hb1 hb2
    · exact value_14n hb a b c h1 ha1 ha2 hb1 hb2
  · by_cases h1 : a = 1
    · exact value_15y hb a b c h1 ha1 ha2 hb1 hb2
    · exact value_15n hb a b c h1 ha1 ha2 hb1 hb2
  · by_cases h1 : a = 1
    · exact value_16y hb a b c h1 ha1 ha2 hb1 hb2
    · exact value_16n hb a b c h1 ha1 ha2 hb1 hb2
  · by_cases h1 : a = 1
    · exact value_17y hb a b c h1 ha1 ha2 hb1 hb2
    · exact value_17n hb a b c h1 ha1 ha2 hb1 hb2

theorem parts_no (hb : Tb B0 w p m A c' T) {i : Int} (hi : hasB T i = false) :
    Calls Try.prog 118 #[.pointer (some ⟨p, 0, none⟩), .int .i64 i] w fun e w' => e = .returned (.slice none 0 0) ∧ w = w' := by
  have HB := Lib.hid hb
  have HI := Lib.hid hi
  clear hb hi
  go_enter Try.func118, Try.ntmps118
  go_wp2_with (go_at_call 117; go_must (refine (exists_v HB.out HI.out).mono ?_; rintro e w' ⟨rfl, rfl⟩))
  go_ret
  exact ⟨rfl, rfl⟩
theorem size_yes (hb : Tb B0 w p m A c' T) (hw : TWf T) {i : Nat} {t0 : Tm} (hi : T.nodes[i]? = some t0) :
    Calls Try.prog 59 #[.pointer (some ⟨p, 0, none⟩), .int .i64 i] w fun e w' => e = .returned (.int .i64 ((partsN T i).length : Int)) ∧ Below w.heap.size w w' := by
  have HB := Lib.hid hb
  have HI := Lib.hid hi
  clear hb hi
  go_enter Try.func59, Try.ntmps59
  go_wp2_with (go_at_call 118; go_must (refine (parts_yes HB.out hw HI.out).mono ?_; rintro e w' ⟨v, rfl, ho, hb⟩; obtain ⟨A1, c1, rfl, hs⟩ := ho.sl 0; rw [List.length_map]; clear ho hs))
  go_ret
  exact ⟨rfl, hb⟩
theorem size_no (hb : Tb B0 w p m A c' T) {i : Int} (hi : hasB T i = false) :
    Calls Try.prog 59 #[.pointer (some ⟨p, 0, none⟩), .int .i64 i] w fun e w' => e = .returned (.int .i64 0) ∧ w = w' := by
  have HB := Lib.hid hb
  have HI := Lib.hid hi
  clear hb hi
  go_enter Try.func59, Try.ntmps59
  go_wp2_with (go_at_call 118; go_must (refine (parts_no HB.out HI.out).mono ?_; rintro e w' ⟨rfl, rfl⟩))
  go_ret
  exact ⟨rfl, rfl⟩
end
end Go.Proofs.Ytgmcajojigedaaa
