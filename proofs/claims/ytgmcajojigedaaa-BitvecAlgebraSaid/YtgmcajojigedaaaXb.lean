/- BitvecAlgebra: the laws of the operators, in plain numbers; the table at the beginning. -/
import Derived.Test.YtgmcajojigedaaaXa
set_option linter.unusedSimpArgs false
set_option linter.unusedVariables false
namespace Go.Proofs.Ytgmcajojigedaaa
open Go.RowKit

section
variable (q m n : Int)
theorem wrap_addl : wrapW q (wrapW q m + n) = wrapW q (m + n) := by
  unfold wrapW; split
  · rw [Int.bmod_add_bmod]
  · rfl
theorem wrap_addr : wrapW q (m + wrapW q n) = wrapW q (m + n) := by
  unfold wrapW; split
  · rw [Int.add_bmod_bmod]
  · rfl
theorem wrap_subl : wrapW q (wrapW q m - n) = wrapW q (m - n) := by
  rw [Int.sub_eq_add_neg, wrap_addl, ← Int.sub_eq_add_neg]
theorem wrap_mulr : wrapW q (m * wrapW q n) = wrapW q (m * n) := by
  unfold wrapW; split
  · rw [Int.mul_bmod_bmod]
  · rfl
end
section
variable {q x y z p r : Int}
theorem alg1 (hx : wrapW q x = x) : opV q 6 (opV q 5 x y 0) y 0 = x := by
  show wrapW q (wrapW q (x + y) - y) = x
  rw [wrap_subl, show x + y - y = x by omega, hx]
theorem alg2 : opV q 7 x (opV q 5 y z 0) 0 = opV q 5 (opV q 7 x y 0) (opV q 7 x z 0) 0 := by
  show wrapW q (x * wrapW q (y + z)) = wrapW q (wrapW q (x * y) + wrapW q (x * z))
  rw [wrap_mulr, wrap_addl, wrap_addr, Int.mul_add]
theorem alg3 : opV q 4 (opV q 6 x y 0) 0 0 = opV q 6 y x 0 := by
  show wrapW q (-wrapW q (x - y)) = wrapW q (y - x)
  rw [wrapW_neg, show -(x - y) = y - x by omega]
theorem alg4 : opV q 5 x (opV q 5 y z 0) 0 = opV q 5 (opV q 5 x y 0) z 0 := by
  show wrapW q (x + wrapW q (y + z)) = wrapW q (wrapW q (x + y) + z)
  rw [wrap_addr, wrap_addl, show x + (y + z) = x + y + z by omega]
theorem alg5 : opV q 11 (opV q 17 x y 0) 0 0 = opV q 13 (opV q 17 y x 0) (opV q 16 x y 0) 0 := by
  show 1 - bI (decide (x < y)) = bI (decide (bI (decide (y < x)) = 1 ∨ bI (decide (x = y)) = 1))
  rcases Int.lt_trichotomy x y with h | h | h
  · have h1 : ¬ y < x := by omega
    have h2 : ¬ x = y := by omega
    simp [bI, h, h1, h2]
  · subst h; simp [bI]
  · have h1 : ¬ x < y := by omega
    simp [bI, h, h1]
theorem alg6 (hp : p = 0 ∨ p = 1) (hr : r = 0 ∨ r = 1) : opV q 11 (opV q 12 p r 0) 0 0 = opV q 13 (opV q 11 p 0 0) (opV q 11 r 0 0) 0 := by
  rcases hp with rfl | rfl <;> rcases hr with rfl | rfl <;> rfl
theorem alg7 (hp : p = 0 ∨ p = 1) (hr : r = 0 ∨ r = 1) : opV q 15 p r (opV q 11 r 0 0) = opV q 14 p r 0 := by
  rcases hp with rfl | rfl <;> rcases hr with rfl | rfl <;> rfl
theorem alg8 : opV q 10 (opV q 16 x y 0) x y = y := by
  show (if bI (decide (x = y)) = 1 then x else y) = y
  by_cases h : x = y
  · simp [bI, h]
  · simp [bI, h]
theorem alg9 (hp : p = 0 ∨ p = 1) : opV q 17 (opV q 10 p x y) z 0 = opV q 15 p (opV q 17 x z 0) (opV q 17 y z 0) := by
  rcases hp with rfl | rfl <;> rfl

/-! ### The beginning -/
def al5 : List Tm := [⟨0, 0, 0, 0, 0⟩, ⟨0, 1, 0, 0, 0⟩, ⟨0, 2, 0, 0, 0⟩, ⟨1, 3, 0, 0, 0⟩, ⟨1, 4, 0, 0, 0⟩]
theorem build_al (q : Int) : buildF q al5 = ⟨q, al5⟩ := by rfl
theorem leaf_int {inp : List Int} {k : Nat} {v : Int} (hk : k < inp.length) (hv : inp.getD k 0 = v) (hw : wrapW q v = v) : leafV q inp ⟨0, k, 0, 0, 0⟩ = some v := by
  unfold leafV
  dsimp only
  rw [Int.toNat_natCast, hv, if_neg (by omega), if_neg (by intro h; exact h.2 hw), if_neg (by intro h; exact absurd h.1 (by decide))]
theorem leaf_flag {inp : List Int} {k : Nat} {v : Int} (hk : k < inp.length) (hv : inp.getD k 0 = v) (hw : v = 0 ∨ v = 1) : leafV q inp ⟨1, k, 0, 0, 0⟩ = some v := by
  unfold leafV
  dsimp only
  rw [Int.toNat_natCast, hv, if_neg (by omega), if_neg (by intro h; exact absurd h.1 (by decide)), if_neg (by rintro ⟨_, h1, h2⟩; rcases hw with h | h; exact h1 h; exact h2 h)]
def al0 (x y z p r : Int) : List (Int × Int × Int) := [(0, 0, x), (1, 0, y), (2, 0, z), (3, 1, p), (4, 1, r)]
theorem al_ev (hx : wrapW q x = x) (hy : wrapW q y = y) (hz : wrapW q z = z) (hp : p = 0 ∨ p = 1) (hr : r = 0 ∨ r = 1) : ∀ e ∈ al0 x y z p r, Ev ⟨q, al5⟩ [x, y, z, p, r] e.1 e.2.1 e.2.2 := by
  intro e he
  simp only [al0, List.mem_cons, List.not_mem_nil, or_false] at he
  rcases he with rfl | rfl | rfl | rfl | rfl
  · refine ⟨0, ⟨0, 0, 0, 0, 0⟩, rfl, rfl, rfl, ?_⟩
    rw [vAt_leaf (t := ⟨0, 0, 0, 0, 0⟩) rfl rfl, if_pos (Or.inl rfl)]; exact leaf_int (k := 0) (by simp) rfl hx
  · refine ⟨1, ⟨0, 1, 0, 0, 0⟩, rfl, rfl, rfl, ?_⟩
    rw [vAt_leaf (t := ⟨0, 1, 0, 0, 0⟩) rfl rfl, if_pos (Or.inl rfl)]; exact leaf_int (k := 1) (by simp) rfl hy
  · refine ⟨2, ⟨0, 2, 0, 0, 0⟩, rfl, rfl, rfl, ?_⟩
    rw [vAt_leaf (t := ⟨0, 2, 0, 0, 0⟩) rfl rfl, if_pos (Or.inl rfl)]; exact leaf_int (k := 2) (by simp) rfl hz
  · refine ⟨3, ⟨1, 3, 0, 0, 0⟩, rfl, rfl, rfl, ?_⟩
    rw [vAt_leaf (t := ⟨1, 3, 0, 0, 0⟩) rfl rfl, if_pos (Or.inr rfl)]; exact leaf_flag (k := 3) (by simp) rfl hp
  · refine ⟨4, ⟨1, 4, 0, 0, 0⟩, rfl, rfl, rfl, ?_⟩
    rw [vAt_leaf (t := ⟨1, 4, 0, 0, 0⟩) rfl rfl, if_pos (Or.inr rfl)]; exact leaf_flag (k := 4) (by simp) rfl hr
end
theorem clos82_v {a n r : Int} {b : Nat} {w : World} (hc : w.cell? ⟨b, 0, none⟩ = some (.int .i64 a)) (hr : wrapW a n = r) :
    Calls Try.prog 82 #[.int .i64 n, .pointer (some ⟨b, 0, none⟩)] w fun e w' => e = .returned (.int .i64 r) ∧ w = w' := by
  have HR := Lib.hid hr
  clear hr
  go_enter Try.func82, Try.ntmps82
  go_wp2_with (go_at_call 25; go_must (refine (wrap_v HR.out _).mono ?_; rintro e w1 ⟨rfl, rfl⟩))
  go_ret
  exact ⟨rfl, rfl⟩
theorem slT_al {w : World} : SlT (w.alloc (.cells #[.int .i64 0, .int .i64 0, .int .i64 0, .int .i64 0, .int .i64 0, .int .i64 0, .int .i64 1, .int .i64 0, .int .i64 0, .int .i64 0, .int .i64 0, .int .i64 2, .int .i64 0, .int .i64 0, .int .i64 0, .int .i64 1, .int .i64 3, .int .i64 0, .int .i64 0, .int .i64 0, .int .i64 1, .int .i64 4, .int .i64 0, .int .i64 0, .int .i64 0] 84)) (some ⟨w.heap.size, 0, none⟩) 5 al5 := by
  refine ⟨Nat.le_refl _, by omega, fun _ => ⟨w.heap.size, 0, rfl, fun k t hk => ?_⟩⟩
  rcases k with _ | _ | _ | _ | _ | k
  · cases hk; exact ⟨z_cell w _ _ 0, z_cell w _ _ 1, z_cell w _ _ 2, z_cell w _ _ 3, z_cell w _ _ 4⟩
  · cases hk; exact ⟨z_cell w _ _ 5, z_cell w _ _ 6, z_cell w _ _ 7, z_cell w _ _ 8, z_cell w _ _ 9⟩
  · cases hk; exact ⟨z_cell w _ _ 10, z_cell w _ _ 11, z_cell w _ _ 12, z_cell w _ _ 13, z_cell w _ _ 14⟩
  · cases hk; exact ⟨z_cell w _ _ 15, z_cell w _ _ 16, z_cell w _ _ 17, z_cell w _ _ 18, z_cell w _ _ 19⟩
  · cases hk; exact ⟨z_cell w _ _ 20, z_cell w _ _ 21, z_cell w _ _ 22, z_cell w _ _ 23, z_cell w _ _ 24⟩
  · simp [al5] at hk
theorem z_cell1 (w : World) (o : Obj) (cs : Array Value) (t k : Nat) : ((w.alloc o).alloc (.cells cs t)).cell? ⟨w.heap.size + 1, k, none⟩ = cs[k]? := by
  have := z_cell (w.alloc o) cs t k
  rwa [show (w.alloc o).heap.size = w.heap.size + 1 by simp] at this
end Go.Proofs.Ytgmcajojigedaaa
