/- The reference of chapter 22: truth, Divide. The reference of chapter 22: apply (printed by genwf.py). -/
import Derived.Test.YtgmcajojigedaaaWc
import Derived.Deep.RegionWith
set_option linter.unusedSimpArgs false
set_option linter.unusedVariables false
namespace Go.Proofs.Ytgmcajojigedaaa
open Go.RowKit

theorem rtruth_v {b : Bool} {x : Int} (h : bI b = x) (w : World) : Calls Try.prog 181 #[.bool b] w fun e w' => e = .returned (.int .i64 x) ∧ w = w' := by
  subst h
  cases b
  · go_enter Try.func181, Try.ntmps181
    go_wp2
    go_ret
    exact ⟨rfl, rfl⟩
  · go_enter Try.func181, Try.ntmps181
    go_wp2
    go_ret
    exact ⟨rfl, rfl⟩
theorem remW_wrap (a x y : Int) : wrapW a (remW a x y) = remW a x y := by
  by_cases h : 2 ≤ a ∧ a ≤ 8
  · exact wrapW_of_in (remW_any h.1 h.2 x y)
  · have h' : a < 2 ∨ 8 < a := by omega
    unfold remW; simp [wr_out _ h']
theorem rdivide_any (a x y : Int) (w : World) :
    Calls Try.prog 180 #[.int .i64 a, .int .i64 x, .int .i64 y] w fun e w' => e = .returned (.tuple #[.int .i64 (quoW a x y), .int .i64 (remW a x y)]) ∧ ∃ n, w' = w.drewN n := by
  have hrw := remW_wrap a x y
  obtain ⟨X, hX⟩ : ∃ X, wrapW a x = X := ⟨_, rfl⟩
  obtain ⟨Y, hY⟩ : ∃ Y, wrapW a y = Y := ⟨_, rfl⟩
  have bx := wrapW_small a x
  have by' := wrapW_small a y
  unfold remW at hrw
  unfold quoW remW
  rw [hX, hY] at hrw ⊢
  rw [hX] at bx
  rw [hY] at by'
  obtain ⟨x1, x2⟩ := bx
  obtain ⟨y1, y2⟩ := by'
  have HX := Lib.hid hX
  have HY := Lib.hid hY
  clear hX hY
  by_cases h : Y = 0
  · subst h
    go_enter Try.func180, Try.ntmps180
    go_wp2_with (go_at_call 98; go_must (refine (rwrap_v (by first | exact HX.out | exact HY.out) _).mono ?_; rintro e w' ⟨rfl, rfl⟩))
    go_ret2
    exact ⟨rfl, 0, rfl⟩
  · have hne : (Y == 0) = false := by simp [h]
    rw [if_neg h] at hrw
    rw [if_neg h, if_neg h]
    obtain ⟨q, hq⟩ : ∃ q, X.tdiv Y = q := ⟨_, rfl⟩
    obtain ⟨r, hr⟩ : ∃ r, X.tmod Y = r := ⟨_, rfl⟩
    have hqb : q.natAbs ≤ 128 := by rw [← hq, Int.natAbs_tdiv]; exact Nat.le_trans (Nat.div_le_self X.natAbs Y.natAbs) (by omega)
    have hw1 : IntKind.i64.wrap q = q := by rw [IntKind.wrap_i64]; omega
    obtain ⟨Q, hQ⟩ : ∃ Q, wrapW a q = Q := ⟨_, rfl⟩
    rw [hr] at hrw
    rw [hq, hr, hQ]
    have HQ := Lib.hid hQ
    have HR := Lib.hid hrw
    clear hqb hQ hrw
    go_enter Try.func180, Try.ntmps180
    go_wp2_with (go_at_call 98; go_must (refine (rwrap_v (by first | exact HX.out | exact HY.out) _).mono ?_; rintro e w' ⟨rfl, rfl⟩))
    go_quiet ((go_at_call 98; exact quiet_left (rwrap_v (by first | exact HQ.out | exact HR.out) _)))
    go_wp2
    go_ret2
    exact ⟨rfl, nq, rfl⟩
end Go.Proofs.Ytgmcajojigedaaa
namespace Go.Proofs.Ytgmcajojigedaaa
open Go.RowKit

theorem rdiv_v {a x y q r : Int} (hq : quoW a x y = q) (hr : remW a x y = r) (w : World) : Calls Try.prog 180 #[.int .i64 a, .int .i64 x, .int .i64 y] w fun e w' => e = .returned (.tuple #[.int .i64 q, .int .i64 r]) ∧ ∃ n, w' = w.drewN n := by
  subst hq hr; exact rdivide_any a x y w
set_option maxRecDepth 100000 in
set_option maxHeartbeats 1000000 in
theorem rap_4 (wd a b c : Int)  (ha1 : -128 ≤ a) (ha2 : a ≤ 128) (hb1 : -128 ≤ b) (hb2 : b ≤ 128) (w : World) :
    Calls Try.prog 134 #[.int .i64 wd, .int .i64 4, .int .i64 a, .int .i64 b, .int .i64 c] w fun e w' => e = .returned (.int .i64 (opV wd 4 a b c)) ∧ ∃ n, w' = w.drewN n := by
  obtain ⟨r, hr⟩ : ∃ r, opV wd 4 a b c = r := ⟨_, rfl⟩
  rw [hr]
  have HR : Hid (wrapW wd (-a) = r) := by
    show _ = _
    rw [← hr]; rfl
  have k1 : IntKind.i64.wrap (-a) = -a := by rw [IntKind.wrap_i64]; omega
  obtain ⟨Q, hQ⟩ : ∃ Q, quoW wd a b = Q := ⟨_, rfl⟩
  obtain ⟨R, hR⟩ : ∃ R, remW wd a b = R := ⟨_, rfl⟩
  have HQ := Lib.hid hQ
  have HRM := Lib.hid hR
  clear hr hQ hR 
  go_enter Try.func134, Try.ntmps134
  go_wp2_with (first
    | (go_at_call 180; go_must (refine (rdiv_v HQ.out HRM.out _).mono ?_; rintro e w1 ⟨rfl, nd, rfl⟩))
    | (go_at_call 98; go_must (refine (rwrap_v HR.out _).mono ?_; rintro e w9 ⟨rfl, rfl⟩)))
  go_ret
  exact ⟨rfl, nd, rfl⟩
set_option maxRecDepth 100000 in
set_option maxHeartbeats 1000000 in
theorem rap_5 (wd a b c : Int)  (ha1 : -128 ≤ a) (ha2 : a ≤ 128) (hb1 : -128 ≤ b) (hb2 : b ≤ 128) (w : World) :
    Calls Try.prog 134 #[.int .i64 wd, .int .i64 5, .int .i64 a, .int .i64 b, .int .i64 c] w fun e w' => e = .returned (.int .i64 (opV wd 5 a b c)) ∧ ∃ n, w' = w.drewN n := by
  obtain ⟨r, hr⟩ : ∃ r, opV wd 5 a b c = r := ⟨_, rfl⟩
  rw [hr]
  have HR : Hid (wrapW wd (a + b) = r) := by
    show _ = _
    rw [← hr]; rfl
  have k1 : IntKind.i64.wrap (a + b) = a + b := by rw [IntKind.wrap_i64]; omega
  obtain ⟨Q, hQ⟩ : ∃ Q, quoW wd a b = Q := ⟨_, rfl⟩
  obtain ⟨R, hR⟩ : ∃ R, remW wd a b = R := ⟨_, rfl⟩
  have HQ := Lib.hid hQ
  have HRM := Lib.hid hR
  clear hr hQ hR 
  go_enter Try.func134, Try.ntmps134
  go_wp2_with (first
    | (go_at_call 180; go_must (refine (rdiv_v HQ.out HRM.out _).mono ?_; rintro e w1 ⟨rfl, nd, rfl⟩))
    | (go_at_call 98; go_must (refine (rwrap_v HR.out _).mono ?_; rintro e w9 ⟨rfl, rfl⟩)))
  go_ret
  exact ⟨rfl, nd, rfl⟩
set_option maxRecDepth 100000 in
set_option maxHeartbeats 1000000 in
theorem rap_6 (wd a b c : Int)  (ha1 : -128 ≤ a) (ha2 : a ≤ 128) (hb1 : -128 ≤ b) (hb2 : b ≤ 128) (w : World) :
    Calls Try.prog 134 #[.int .i64 wd, .int .i64 6, .int .i64 a, .int .i64 b, .int .i64 c] w fun e w' => e = .returned (.int .i64 (opV wd 6 a b c)) ∧ ∃ n, w' = w.drewN n := by
  obtain ⟨r, hr⟩ : ∃ r, opV wd 6 a b c = r := ⟨_, rfl⟩
  rw [hr]
  have HR : Hid (wrapW wd (a - b) = r) := by
    show _ = _
    rw [← hr]; rfl
  have k1 : IntKind.i64.wrap (a - b) = a - b := by rw [IntKind.wrap_i64]; omega
  obtain ⟨Q, hQ⟩ : ∃ Q, quoW wd a b = Q := ⟨_, rfl⟩
  obtain ⟨R, hR⟩ : ∃ R, remW wd a b = R := ⟨_, rfl⟩
  have HQ := Lib.hid hQ
  have HRM := Lib.hid hR
  clear hr hQ hR 
  go_enter Try.func134, Try.ntmps134
  go_wp2_with (first
    | (go_at_call 180; go_must (refine (rdiv_v HQ.out HRM.out _).mono ?_; rintro e w1 ⟨rfl, nd, rfl⟩))
    | (go_at_call 98; go_must (refine (rwrap_v HR.out _).mono ?_; rintro e w9 ⟨rfl, rfl⟩)))
  go_ret
  exact ⟨rfl, nd, rfl⟩
set_option maxRecDepth 100000 in
set_option maxHeartbeats 1000000 in
theorem rap_7 (wd a b c : Int)  (ha1 : -128 ≤ a) (ha2 : a ≤ 128) (hb1 : -128 ≤ b) (hb2 : b ≤ 128) (w : World) :
    Calls Try.prog 134 #[.int .i64 wd, .int .i64 7, .int .i64 a, .int .i64 b, .int .i64 c] w fun e w' => e = .returned (.int .i64 (opV wd 7 a b c)) ∧ ∃ n, w' = w.drewN n := by
  obtain ⟨r, hr⟩ : ∃ r, opV wd 7 a b c = r := ⟨_, rfl⟩
  rw [hr]
  have HR : Hid (wrapW wd (a * b) = r) := by
    show _ = _
    rw [← hr]; rfl
  have hzb : (a * b).natAbs ≤ 16384 := by rw [Int.natAbs_mul]; exact Nat.mul_le_mul (show a.natAbs ≤ 128 by omega) (show b.natAbs ≤ 128 by omega)
  obtain ⟨z, hz⟩ : ∃ z, a * b = z := ⟨_, rfl⟩
  rw [hz] at hzb HR
  have kz : IntKind.i64.wrap (a * b) = z := by rw [hz, IntKind.wrap_i64]; omega
  clear hzb hz
  obtain ⟨Q, hQ⟩ : ∃ Q, quoW wd a b = Q := ⟨_, rfl⟩
  obtain ⟨R, hR⟩ : ∃ R, remW wd a b = R := ⟨_, rfl⟩
  have HQ := Lib.hid hQ
  have HRM := Lib.hid hR
  clear hr hQ hR 
  go_enter Try.func134, Try.ntmps134
  go_wp2_with (first
    | (go_at_call 180; go_must (refine (rdiv_v HQ.out HRM.out _).mono ?_; rintro e w1 ⟨rfl, nd, rfl⟩))
    | (go_at_call 98; go_must (refine (rwrap_v HR.out _).mono ?_; rintro e w9 ⟨rfl, rfl⟩)))
  go_ret
  exact ⟨rfl, nd, rfl⟩
set_option maxRecDepth 100000 in
set_option maxHeartbeats 1000000 in
theorem rap_8 (wd a b c : Int)  (ha1 : -128 ≤ a) (ha2 : a ≤ 128) (hb1 : -128 ≤ b) (hb2 : b ≤ 128) (w : World) :
    Calls Try.prog 134 #[.int .i64 wd, .int .i64 8, .int .i64 a, .int .i64 b, .int .i64 c] w fun e w' => e = .returned (.int .i64 (opV wd 8 a b c)) ∧ ∃ n, w' = w.drewN n := by
  obtain ⟨r, hr⟩ : ∃ r, opV wd 8 a b c = r := ⟨_, rfl⟩
  rw [hr]
  have HR : Hid (quoW wd a b = r) := by
    show _ = _
    rw [← hr]; rfl
  obtain ⟨Q, hQ⟩ : ∃ Q, quoW wd a b = Q := ⟨_, rfl⟩
  obtain ⟨R, hR⟩ : ∃ R, remW wd a b = R := ⟨_, rfl⟩
  have HQ := Lib.hid hQ
  have HRM := Lib.hid hR
  clear hr hQ hR 
  go_enter Try.func134, Try.ntmps134
  go_wp2_with (go_at_call 180; go_must (refine (rdiv_v HQ.out HRM.out _).mono ?_; rintro e w1 ⟨rfl, nd, rfl⟩))
  go_ret
  exact ⟨ret_i (by rw [← HR.out, HQ.out]), nd, rfl⟩
set_option maxRecDepth 100000 in
set_option maxHeartbeats 1000000 in
theorem rap_9 (wd a b c : Int)  (ha1 : -128 ≤ a) (ha2 : a ≤ 128) (hb1 : -128 ≤ b) (hb2 : b ≤ 128) (w : World) :
    Calls Try.prog 134 #[.int .i64 wd, .int .i64 9, .int .i64 a, .int .i64 b, .int .i64 c] w fun e w' => e = .returned (.int .i64 (opV wd 9 a b c)) ∧ ∃ n, w' = w.drewN n := by
  obtain ⟨r, hr⟩ : ∃ r, opV wd 9 a b c = r := ⟨_, rfl⟩
  rw [hr]
  have HR : Hid (remW wd a b = r) := by
    show _ = _
    rw [← hr]; rfl
  obtain ⟨Q, hQ⟩ : ∃ Q, quoW wd a b = Q := ⟨_, rfl⟩
  obtain ⟨R, hR⟩ : ∃ R, remW wd a b = R := ⟨_, rfl⟩
  have HQ := Lib.hid hQ
  have HRM := Lib.hid hR
  clear hr hQ hR 
  go_enter Try.func134, Try.ntmps134
  go_wp2_with (go_at_call 180; go_must (refine (rdiv_v HQ.out HRM.out _).mono ?_; rintro e w1 ⟨rfl, nd, rfl⟩))
  go_ret
  exact ⟨ret_i (by rw [← HR.out, HRM.out]), nd, rfl⟩
set_option maxRecDepth 100000 in
set_option maxHeartbeats 1000000 in
theorem rap_11 (wd a b c : Int)  (ha1 : -128 ≤ a) (ha2 : a ≤ 128) (hb1 : -128 ≤ b) (hb2 : b ≤ 128) (w : World) :
    Calls Try.prog 134 #[.int .i64 wd, .int .i64 11, .int .i64 a, .int .i64 b, .int .i64 c] w fun e w' => e = .returned (.int .i64 (opV wd 11 a b c)) ∧ ∃ n, w' = w.drewN n := by
  obtain ⟨r, hr⟩ : ∃ r, opV wd 11 a b c = r := ⟨_, rfl⟩
  rw [hr]
  have HR : Hid (1 - a = r) := by
    show _ = _
    rw [← hr]; rfl
  obtain ⟨Q, hQ⟩ : ∃ Q, quoW wd a b = Q := ⟨_, rfl⟩
  obtain ⟨R, hR⟩ : ∃ R, remW wd a b = R := ⟨_, rfl⟩
  have HQ := Lib.hid hQ
  have HRM := Lib.hid hR
  clear hr hQ hR 
  go_enter Try.func134, Try.ntmps134
  go_wp2_with (go_at_call 180; go_must (refine (rdiv_v HQ.out HRM.out _).mono ?_; rintro e w1 ⟨rfl, nd, rfl⟩))
  go_ret
  exact ⟨ret_i HR.out, nd, rfl⟩
set_option maxRecDepth 100000 in
set_option maxHeartbeats 1000000 in
theorem rap_14 (wd a b c : Int)  (ha1 : -128 ≤ a) (ha2 : a ≤ 128) (hb1 : -128 ≤ b) (hb2 : b ≤ 128) (w : World) :
    Calls Try.prog 134 #[.int .i64 wd, .int .i64 14, .int .i64 a, .int .i64 b, .int .i64 c] w fun e w' => e = .returned (.int .i64 (opV wd 14 a b c)) ∧ ∃ n, w' = w.drewN n := by
  obtain ⟨r, hr⟩ : ∃ r, opV wd 14 a b c = r := ⟨_, rfl⟩
  rw [hr]
  have HR : Hid (bI (decide (a = b)) = r) := by
    show _ = _
    rw [← hr]; rfl
  obtain ⟨be, hbe⟩ : ∃ be, decide (a = b) = be := ⟨_, rfl⟩
  have hbe1 : (a == b) = be := by rw [← hbe]; by_cases h : a = b <;> simp [h]
  rw [hbe] at HR
  clear hbe
  obtain ⟨Q, hQ⟩ : ∃ Q, quoW wd a b = Q := ⟨_, rfl⟩
  obtain ⟨R, hR⟩ : ∃ R, remW wd a b = R := ⟨_, rfl⟩
  have HQ := Lib.hid hQ
  have HRM := Lib.hid hR
  clear hr hQ hR 
  go_enter Try.func134, Try.ntmps134
  go_wp2_with (first
    | (go_at_call 180; go_must (refine (rdiv_v HQ.out HRM.out _).mono ?_; rintro e w1 ⟨rfl, nd, rfl⟩))
    | (go_at_call 181; go_must (refine (rtruth_v HR.out _).mono ?_; rintro e w9 ⟨rfl, rfl⟩)))
  go_ret
  exact ⟨rfl, nd, rfl⟩
set_option maxRecDepth 100000 in
set_option maxHeartbeats 1000000 in
theorem rap_16 (wd a b c : Int)  (ha1 : -128 ≤ a) (ha2 : a ≤ 128) (hb1 : -128 ≤ b) (hb2 : b ≤ 128) (w : World) :
    Calls Try.prog 134 #[.int .i64 wd, .int .i64 16, .int .i64 a, .int .i64 b, .int .i64 c] w fun e w' => e = .returned (.int .i64 (opV wd 16 a b c)) ∧ ∃ n, w' = w.drewN n := by
  obtain ⟨r, hr⟩ : ∃ r, opV wd 16 a b c = r := ⟨_, rfl⟩
  rw [hr]
  have HR : Hid (bI (decide (a = b)) = r) := by
    show _ = _
    rw [← hr]; rfl
  obtain ⟨be, hbe⟩ : ∃ be, decide (a = b) = be := ⟨_, rfl⟩
  have hbe1 : (a == b) = be := by rw [← hbe]; by_cases h : a = b <;> simp [h]
  rw [hbe] at HR
  clear hbe
  obtain ⟨Q, hQ⟩ : ∃ Q, quoW wd a b = Q := ⟨_, rfl⟩
  obtain ⟨R, hR⟩ : ∃ R, remW wd a b = R := ⟨_, rfl⟩
  have HQ := Lib.hid hQ
  have HRM := Lib.hid hR
  clear hr hQ hR 
  go_enter Try.func134, Try.ntmps134
  go_wp2_with (first
    | (go_at_call 180; go_must (refine (rdiv_v HQ.out HRM.out _).mono ?_; rintro e w1 ⟨rfl, nd, rfl⟩))
    | (go_at_call 181; go_must (refine (rtruth_v HR.out _).mono ?_; rintro e w9 ⟨rfl, rfl⟩)))
  go_ret
  exact ⟨rfl, nd, rfl⟩
set_option maxRecDepth 100000 in
set_option maxHeartbeats 1000000 in
theorem rap_17 (wd a b c : Int)  (ha1 : -128 ≤ a) (ha2 : a ≤ 128) (hb1 : -128 ≤ b) (hb2 : b ≤ 128) (w : World) :
    Calls Try.prog 134 #[.int .i64 wd, .int .i64 17, .int .i64 a, .int .i64 b, .int .i64 c] w fun e w' => e = .returned (.int .i64 (opV wd 17 a b c)) ∧ ∃ n, w' = w.drewN n := by
  obtain ⟨r, hr⟩ : ∃ r, opV wd 17 a b c = r := ⟨_, rfl⟩
  rw [hr]
  have HR : Hid (bI (decide (a < b)) = r) := by
    show _ = _
    rw [← hr]; rfl
  obtain ⟨be, hbe⟩ : ∃ be, decide (a < b) = be := ⟨_, rfl⟩
  rw [hbe] at HR
  obtain ⟨Q, hQ⟩ : ∃ Q, quoW wd a b = Q := ⟨_, rfl⟩
  obtain ⟨R, hR⟩ : ∃ R, remW wd a b = R := ⟨_, rfl⟩
  have HQ := Lib.hid hQ
  have HRM := Lib.hid hR
  clear hr hQ hR 
  go_enter Try.func134, Try.ntmps134
  go_wp2_with (first
    | (go_at_call 180; go_must (refine (rdiv_v HQ.out HRM.out _).mono ?_; rintro e w1 ⟨rfl, nd, rfl⟩))
    | (go_at_call 181; go_must (refine (rtruth_v HR.out _).mono ?_; rintro e w9 ⟨rfl, rfl⟩)))
  go_ret
  exact ⟨rfl, nd, rfl⟩
set_option maxRecDepth 100000 in
set_option maxHeartbeats 1000000 in
theorem rap_10y (wd a b c : Int) (h1 : a = 1) (ha1 : -128 ≤ a) (ha2 : a ≤ 128) (hb1 : -128 ≤ b) (hb2 : b ≤ 128) (w : World) :
    Calls Try.prog 134 #[.int .i64 wd, .int .i64 10, .int .i64 a, .int .i64 b, .int .i64 c] w fun e w' => e = .returned (.int .i64 (opV wd 10 a b c)) ∧ ∃ n, w' = w.drewN n := by
  obtain ⟨r, hr⟩ : ∃ r, opV wd 10 a b c = r := ⟨_, rfl⟩
  rw [hr]
  have HR : Hid (b = r) := by
    show _ = _
    rw [← hr]; exact (if_pos h1).symm
  have e1 : (a == 1) = true := beq_iff_eq.2 h1
  obtain ⟨Q, hQ⟩ : ∃ Q, quoW wd a b = Q := ⟨_, rfl⟩
  obtain ⟨R, hR⟩ : ∃ R, remW wd a b = R := ⟨_, rfl⟩
  have HQ := Lib.hid hQ
  have HRM := Lib.hid hR
  clear hr hQ hR h1
  go_enter Try.func134, Try.ntmps134
  go_wp2_with (go_at_call 180; go_must (refine (rdiv_v HQ.out HRM.out _).mono ?_; rintro e w1 ⟨rfl, nd, rfl⟩))
  go_ret
  exact ⟨ret_i HR.out, nd, rfl⟩
set_option maxRecDepth 100000 in
set_option maxHeartbeats 1000000 in
theorem rap_10n (wd a b c : Int) (h1 : a ≠ 1) (ha1 : -128 ≤ a) (ha2 : a ≤ 128) (hb1 : -128 ≤ b) (hb2 : b ≤ 128) (w : World) :
    Calls Try.prog 134 #[.int .i64 wd, .int .i64 10, .int .i64 a, .int .i64 b, .int .i64 c] w fun e w' => e = .returned (.int .i64 (opV wd 10 a b c)) ∧ ∃ n, w' = w.drewN n := by
  obtain ⟨r, hr⟩ : ∃ r, opV wd 10 a b c = r := ⟨_, rfl⟩
  rw [hr]
  have HR : Hid (c = r) := by
    show _ = _
    rw [← hr]; exact (if_neg h1).symm
  have e1 : (a == 1) = false := beq_eq_false_iff_ne.2 h1
  obtain ⟨Q, hQ⟩ : ∃ Q, quoW wd a b = Q := ⟨_, rfl⟩
  obtain ⟨R, hR⟩ : ∃ R, remW wd a b = R := ⟨_, rfl⟩
  have HQ := Lib.hid hQ
  have HRM := Lib.hid hR
  clear hr hQ hR h1
  go_enter Try.func134, Try.ntmps134
  go_wp2_with (go_at_call 180; go_must (refine (rdiv_v HQ.out HRM.out _).mono ?_; rintro e w1 ⟨rfl, nd, rfl⟩))
  go_ret
  exact ⟨ret_i HR.out, nd, rfl⟩
set_option maxRecDepth 100000 in
set_option maxHeartbeats 1000000 in
theorem rap_15y (wd a b c : Int) (h1 : a = 1) (ha1 : -128 ≤ a) (ha2 : a ≤ 128) (hb1 : -128 ≤ b) (hb2 : b ≤ 128) (w : World) :
    Calls Try.prog 134 #[.int .i64 wd, .int .i64 15, .int .i64 a, .int .i64 b, .int .i64 c] w fun e w' => e = .returned (.int .i64 (opV wd 15 a b c)) ∧ ∃ n, w' = w.drewN n := by
  obtain ⟨r, hr⟩ : ∃ r, opV wd 15 a b c = r := ⟨_, rfl⟩
  rw [hr]
  have HR : Hid (b = r) := by
    show _ = _
    rw [← hr]; exact (if_pos h1).symm
  have e1 : (a == 1) = true := beq_iff_eq.2 h1
  obtain ⟨Q, hQ⟩ : ∃ Q, quoW wd a b = Q := ⟨_, rfl⟩
  obtain ⟨R, hR⟩ : ∃ R, remW wd a b = R := ⟨_, rfl⟩
  have HQ := Lib.hid hQ
  have HRM := Lib.hid hR
  clear hr hQ hR h1
  go_enter Try.func134, Try.ntmps134
  go_wp2_with (go_at_call 180; go_must (refine (rdiv_v HQ.out HRM.out _).mono ?_; rintro e w1 ⟨rfl, nd, rfl⟩))
  go_ret
  exact ⟨ret_i HR.out, nd, rfl⟩
set_option maxRecDepth 100000 in
set_option maxHeartbeats 1000000 in
theorem rap_15n (wd a b c : Int) (h1 : a ≠ 1) (ha1 : -128 ≤ a) (ha2 : a ≤ 128) (hb1 : -128 ≤ b) (hb2 : b ≤ 128) (w : World) :
    Calls Try.prog 134 #[.int .i64 wd, .int .i64 15, .int .i64 a, .int .i64 b, .int .i64 c] w fun e w' => e = .returned (.int .i64 (opV wd 15 a b c)) ∧ ∃ n, w' = w.drewN n := by
  obtain ⟨r, hr⟩ : ∃ r, opV wd 15 a b c = r := ⟨_, rfl⟩
  rw [hr]
  have HR : Hid (c = r) := by
    show _ = _
    rw [← hr]; exact (if_neg h1).symm
  have e1 : (a == 1) = false := beq_eq_false_iff_ne.2 h1
  obtain ⟨Q, hQ⟩ : ∃ Q, quoW wd a b = Q := ⟨_, rfl⟩
  obtain ⟨R, hR⟩ : ∃ R, remW wd a b = R := ⟨_, rfl⟩
  have HQ := Lib.hid hQ
  have HRM := Lib.hid hR
  clear hr hQ hR h1
  go_enter Try.func134, Try.ntmps134
  go_wp2_with (go_at_call 180; go_must (refine (rdiv_v HQ.out HRM.out _).mono ?_; rintro e w1 ⟨rfl, nd, rfl⟩))
  go_ret
  exact ⟨ret_i HR.out, nd, rfl⟩
set_option maxRecDepth 100000 in
theorem rap_12_00 (wd c : Int) (w : World) :
    Calls Try.prog 134 #[.int .i64 wd, .int .i64 12, .int .i64 0, .int .i64 0, .int .i64 c] w fun e w' => e = .returned (.int .i64 0) ∧ ∃ n, w' = w.drewN n := by
  obtain ⟨Q, hQ⟩ : ∃ Q, quoW wd 0 0 = Q := ⟨_, rfl⟩
  obtain ⟨R, hR⟩ : ∃ R, remW wd 0 0 = R := ⟨_, rfl⟩
  have HQ := Lib.hid hQ
  have HRM := Lib.hid hR
  clear hQ hR
  go_enter Try.func134, Try.ntmps134
  go_wp2_with (first
    | (go_at_call 180; go_must (refine (rdiv_v HQ.out HRM.out _).mono ?_; rintro e w1 ⟨rfl, nd, rfl⟩)))
  go_ret
  exact ⟨rfl, nd, rfl⟩
set_option maxRecDepth 100000 in
theorem rap_12_01 (wd c : Int) (w : World) :
    Calls Try.prog 134 #[.int .i64 wd, .int .i64 12, .int .i64 0, .int .i64 1, .int .i64 c] w fun e w' => e = .returned (.int .i64 0) ∧ ∃ n, w' = w.drewN n := by
  obtain ⟨Q, hQ⟩ : ∃ Q, quoW wd 0 1 = Q := ⟨_, rfl⟩
  obtain ⟨R, hR⟩ : ∃ R, remW wd 0 1 = R := ⟨_, rfl⟩
  have HQ := Lib.hid hQ
  have HRM := Lib.hid hR
  clear hQ hR
  go_enter Try.func134, Try.ntmps134
  go_wp2_with (first
    | (go_at_call 180; go_must (refine (rdiv_v HQ.out HRM.out _).mono ?_; rintro e w1 ⟨rfl, nd, rfl⟩)))
  go_ret
  exact ⟨rfl, nd, rfl⟩
set_option maxRecDepth 100000 in
theorem rap_12_10 (wd c : Int) (w : World) :
    Calls Try.prog 134 #[.int .i64 wd, .int .i64 12, .int .i64 1, .int .i64 0, .int .i64 c] w fun e w' => e = .returned (.int .i64 0) ∧ ∃ n, w' = w.drewN n := by
  obtain ⟨Q, hQ⟩ : ∃ Q, quoW wd 1 0 = Q := ⟨_, rfl⟩
  obtain ⟨R, hR⟩ : ∃ R, remW wd 1 0 = R := ⟨_, rfl⟩
  have HQ := Lib.hid hQ
  have HRM := Lib.hid hR
  clear hQ hR
  go_enter Try.func134, Try.ntmps134
  go_wp2_with (first
    | (go_at_call 180; go_must (refine (rdiv_v HQ.out HRM.out _).mono ?_; rintro e w1 ⟨rfl, nd, rfl⟩)))
  go_ret
  exact ⟨rfl, nd, rfl⟩
set_option maxRecDepth 100000 in
theorem rap_12_11 (wd c : Int) (w : World) :
    Calls Try.prog 134 #[.int .i64 wd, .int .i64 12, .int .i64 1, .int .i64 1, .int .i64 c] w fun e w' => e = .returned (.int .i64 1) ∧ ∃ n, w' = w.drewN n := by
  obtain ⟨Q, hQ⟩ : ∃ Q, quoW wd 1 1 = Q := ⟨_, rfl⟩
  obtain ⟨R, hR⟩ : ∃ R, remW wd 1 1 = R := ⟨_, rfl⟩
  have HQ := Lib.hid hQ
  have HRM := Lib.hid hR
  clear hQ hR
  go_enter Try.func134, Try.ntmps134
  go_wp2_with (first
    | (go_at_call 180; go_must (refine (rdiv_v HQ.out HRM.out _).mono ?_; rintro e w1 ⟨rfl, nd, rfl⟩)))
  go_ret
  exact ⟨rfl, nd, rfl⟩
set_option maxRecDepth 100000 in
theorem rap_13_00 (wd c : Int) (w : World) :
    Calls Try.prog 134 #[.int .i64 wd, .int .i64 13, .int .i64 0, .int .i64 0, .int .i64 c] w fun e w' => e = .returned (.int .i64 0) ∧ ∃ n, w' = w.drewN n := by
  obtain ⟨Q, hQ⟩ : ∃ Q, quoW wd 0 0 = Q := ⟨_, rfl⟩
  obtain ⟨R, hR⟩ : ∃ R, remW wd 0 0 = R := ⟨_, rfl⟩
  have HQ := Lib.hid hQ
  have HRM := Lib.hid hR
  clear hQ hR
  go_enter Try.func134, Try.ntmps134
  go_wp2_with (first
    | (go_at_call 180; go_must (refine (rdiv_v HQ.out HRM.out _).mono ?_; rintro e w1 ⟨rfl, nd, rfl⟩))
    | (go_at_call 181; go_must (refine (rtruth_v (b := false) (x := 0) rfl _).mono ?_; rintro e w9 ⟨rfl, rfl⟩)))
  go_ret
  exact ⟨rfl, nd, rfl⟩
set_option maxRecDepth 100000 in
theorem rap_13_01 (wd c : Int) (w : World) :
    Calls Try.prog 134 #[.int .i64 wd, .int .i64 13, .int .i64 0, .int .i64 1, .int .i64 c] w fun e w' => e = .returned (.int .i64 1) ∧ ∃ n, w' = w.drewN n := by
  obtain ⟨Q, hQ⟩ : ∃ Q, quoW wd 0 1 = Q := ⟨_, rfl⟩
  obtain ⟨R, hR⟩ : ∃ R, remW wd 0 1 = R := ⟨_, rfl⟩
  have HQ := Lib.hid hQ
  have HRM := Lib.hid hR
  clear hQ hR
  go_enter Try.func134, Try.ntmps134
  go_wp2_with (first
    | (go_at_call 180; go_must (refine (rdiv_v HQ.out HRM.out _).mono ?_; rintro e w1 ⟨rfl, nd, rfl⟩))
    | (go_at_call 181; go_must (refine (rtruth_v (b := true) (x := 1) rfl _).mono ?_; rintro e w9 ⟨rfl, rfl⟩)))
  go_ret
  exact ⟨rfl, nd, rfl⟩
set_option maxRecDepth 100000 in
theorem rap_13_10 (wd c : Int) (w : World) :
    Calls Try.prog 134 #[.int .i64 wd, .int .i64 13, .int .i64 1, .int .i64 0, .int .i64 c] w fun e w' => e = .returned (.int .i64 1) ∧ ∃ n, w' = w.drewN n := by
  obtain ⟨Q, hQ⟩ : ∃ Q, quoW wd 1 0 = Q := ⟨_, rfl⟩
  obtain ⟨R, hR⟩ : ∃ R, remW wd 1 0 = R := ⟨_, rfl⟩
  have HQ := Lib.hid hQ
  have HRM := Lib.hid hR
  clear hQ hR
  go_enter Try.func134, Try.ntmps134
  go_wp2_with (first
    | (go_at_call 180; go_must (refine (rdiv_v HQ.out HRM.out _).mono ?_; rintro e w1 ⟨rfl, nd, rfl⟩))
    | (go_at_call 181; go_must (refine (rtruth_v (b := true) (x := 1) rfl _).mono ?_; rintro e w9 ⟨rfl, rfl⟩)))
  go_ret
  exact ⟨rfl, nd, rfl⟩
set_option maxRecDepth 100000 in
theorem rap_13_11 (wd c : Int) (w : World) :
    Calls Try.prog 134 #[.int .i64 wd, .int .i64 13, .int .i64 1, .int .i64 1, .int .i64 c] w fun e w' => e = .returned (.int .i64 1) ∧ ∃ n, w' = w.drewN n := by
  obtain ⟨Q, hQ⟩ : ∃ Q, quoW wd 1 1 = Q := ⟨_, rfl⟩
  obtain ⟨R, hR⟩ : ∃ R, remW wd 1 1 = R := ⟨_, rfl⟩
  have HQ := Lib.hid hQ
  have HRM := Lib.hid hR
  clear hQ hR
  go_enter Try.func134, Try.ntmps134
  go_wp2_with (first
    | (go_at_call 180; go_must (refine (rdiv_v HQ.out HRM.out _).mono ?_; rintro e w1 ⟨rfl, nd, rfl⟩))
    | (go_at_call 181; go_must (refine (rtruth_v (b := true) (x := 1) rfl _).mono ?_; rintro e w9 ⟨rfl, rfl⟩)))
  go_ret
  exact ⟨rfl, nd, rfl⟩

theorem rapply_any (o : Int) (ho : 4 ≤ o) (ho2 : o ≤ 17) (wd a b c : Int) (ha1 : -128 ≤ a) (ha2 : a ≤ 128) (hb1 : -128 ≤ b) (hb2 : b ≤ 128) (h01 : o = 12 ∨ o = 13 → (a = 0 ∨ a = 1) ∧ (b = 0 ∨ b = 1)) (w : World) :
    Calls Try.prog 134 #[.int .i64 wd, .int .i64 o, .int .i64 a, .int .i64 b, .int .i64 c] w fun e w' => e = .returned (.int .i64 (opV wd o a b c)) ∧ ∃ n, w' = w.drewN n := by
  obtain rfl | rfl | rfl | rfl | rfl | rfl | rfl | rfl | rfl | rfl | rfl | rfl | rfl | rfl : o = 4 ∨ o = 5 ∨ o = 6 ∨ o = 7 ∨ o = 8 ∨ o = 9 ∨ o = 10 ∨ o = 11 ∨ o = 12 ∨ o = 13 ∨ o = 14 ∨ o = 15 ∨ o = 16 ∨ o = 17 := by omega
  · exact rap_4 wd a b c ha1 ha2 hb1 hb2 w
  · exact rap_5 wd a b c ha1 ha2 hb1 hb2 w
  · exact rap_6 wd a b c ha1 ha2 hb1 hb2 w
  · exact rap_7 wd a b c ha1 ha2 hb1 hb2 w
  · exact rap_8 wd a b c ha1 ha2 hb1 hb2 w
  · exact rap_9 wd a b c ha1 ha2 hb1 hb2 w
  · by_cases h1 : a = 1
    · exact rap_10y wd a b c h1 ha1 ha2 hb1 hb2 w
    · exact rap_10n wd a b c h1 ha1 ha2 hb1 hb2 w
  · exact rap_11 wd a b c ha1 ha2 hb1 hb2 w
  · obtain ⟨h1 | h1, h2 | h2⟩ := h01 (by omega) <;> subst h1 h2
    · exact rap_12_00 wd c w
    · exact rap_12_01 wd c w
    · exact rap_12_10 wd c w
    · exact rap_12_11 wd c w
  · obtain ⟨h1 | h1, h2 | h2⟩ := h01 (by omega) <;> subst h1 h2
    · exact rap_13_00 wd c w
    · exact rap_13_01 wd c w
    · exact rap_13_10 wd c w
    · exact rap_13_11 wd c w
  · exact rap_14 wd a b c ha1 ha2 hb1 hb2 w
  · by_cases h1 : a = 1
    · exact rap_15y wd a b c h1 ha1 ha2 hb1 hb2 w
    · exact rap_15n wd a b c h1 ha1 ha2 hb1 hb2 w
  · exact rap_16 wd a b c ha1 ha2 hb1 hb2 w
  · exact rap_17 wd a b c ha1 ha2 hb1 hb2 w
end Go.Proofs.Ytgmcajojigedaaa
