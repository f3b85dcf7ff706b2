/- Words of literals: all operators as steps of a builder, for words of any lengths; bitvec.Divide; the law's literals. -/
import Derived.Test.YtgmcajojigedaaaFd
import Derived.Test.YtgmcajojigedaaaSa
set_option linter.unusedSimpArgs false
set_option linter.unusedVariables false
namespace Go.Proofs.Ytgmcajojigedaaa
open Go.RowKit

def okN (x y : List Int) : Nat := if okW x y then x.length else 0
def okN1 (x : List Int) : Nat := if okW1 x then x.length else 0
theorem no_lits (g : GS) : areLit g [] := fun z hz => absurd hz (by simp)
section
variable {g : GS} {xs ys : List Int}
theorem addF_all (hw : GWf g) (hx : areLit g xs) (hy : areLit g ys) (hn : g.nodes + 2000 ≤ 65536) : Grew 81 g (addF g xs ys).g ∧ areLit (addF g xs ys).g (addF g xs ys).out ∧ (addF g xs ys).out.length = okN xs ys := by
  unfold okN
  by_cases h : okW xs ys
  · rw [if_pos h]
    obtain ⟨o, _⟩ := add_op (n := xs.length) (ins := List.replicate g.inputs false) hw hx hy (by simp) rfl h.2.2 h.1 h.2.1 (by omega)
    exact ⟨o.grew, o.lits, o.len⟩
  · rw [if_neg h, show addF g xs ys = ⟨g, []⟩ from if_neg h]
    exact ⟨Grew.refl _ _, no_lits _, rfl⟩
theorem subF_all (hw : GWf g) (hx : areLit g xs) (hy : areLit g ys) (hn : g.nodes + 2000 ≤ 65536) : Grew 81 g (subF g xs ys).g ∧ areLit (subF g xs ys).g (subF g xs ys).out ∧ (subF g xs ys).out.length = okN xs ys := by
  unfold okN
  by_cases h : okW xs ys
  · rw [if_pos h]
    obtain ⟨o, _⟩ := sub_op (n := xs.length) (ins := List.replicate g.inputs false) hw hx hy (by simp) rfl h.2.2 h.1 h.2.1 (by omega)
    exact ⟨o.grew, o.lits, o.len⟩
  · rw [if_neg h, show subF g xs ys = ⟨g, []⟩ from if_neg h]
    exact ⟨Grew.refl _ _, no_lits _, rfl⟩
theorem mulF_all (hw : GWf g) (hx : areLit g xs) (hy : areLit g ys) (hn : g.nodes + 2000 ≤ 65536) : Grew 720 g (mulF g xs ys).g ∧ areLit (mulF g xs ys).g (mulF g xs ys).out ∧ (mulF g xs ys).out.length = okN xs ys := by
  unfold okN
  by_cases h : okW xs ys
  · rw [if_pos h]
    obtain ⟨o, _⟩ := mul_op (n := xs.length) (ins := List.replicate g.inputs false) hw hx hy (by simp) rfl h.2.2 h.1 h.2.1 (by omega)
    exact ⟨o.grew, o.lits, o.len⟩
  · rw [if_neg h, show mulF g xs ys = ⟨g, []⟩ from if_neg h]
    exact ⟨Grew.refl _ _, no_lits _, rfl⟩
theorem chooseF2_all {c : Int} (hw : GWf g) (hc : isLit g c) (hx : areLit g xs) (hy : areLit g ys) (hn : g.nodes + 2000 ≤ 65536) : Grew 27 g (chooseF2 g c xs ys).g ∧ areLit (chooseF2 g c xs ys).g (chooseF2 g c xs ys).out ∧ (chooseF2 g c xs ys).out.length = okN xs ys := by
  unfold okN
  by_cases h : okW xs ys
  · rw [if_pos h, show chooseF2 g c xs ys = chooseF g c xs ys from if_pos h]
    obtain ⟨o, _⟩ := choose_op (n := xs.length) (ins := List.replicate g.inputs false) hw hc hx hy (by simp) rfl h.2.2 (by have := h.2.1; omega) (by omega)
    exact ⟨o.grew, o.lits, o.len⟩
  · rw [if_neg h, show chooseF2 g c xs ys = ⟨g, []⟩ from if_neg h]
    exact ⟨Grew.refl _ _, no_lits _, rfl⟩
theorem negF_all (hw : GWf g) (hx : areLit g xs) (hn : g.nodes + 2000 ≤ 65536) : Grew 81 g (negF g xs).g ∧ areLit (negF g xs).g (negF g xs).out ∧ (negF g xs).out.length = okN1 xs := by
  unfold okN1
  by_cases h : okW1 xs
  · rw [if_pos h]
    obtain ⟨o, _⟩ := neg_op (n := xs.length) (ins := List.replicate g.inputs false) hw hx (by simp) rfl h.1 h.2 (by omega)
    exact ⟨o.grew, o.lits, o.len⟩
  · rw [if_neg h, show negF g xs = ⟨g, []⟩ from if_neg h]
    exact ⟨Grew.refl _ _, no_lits _, rfl⟩
theorem equalF_all (hw : GWf g) (hx : areLit g xs) (hy : areLit g ys) (hn : g.nodes + 2000 ≤ 65536) : Grew 36 g (equalF g xs ys).g ∧ isLit (equalF g xs ys).g (equalF g xs ys).x := by
  by_cases h : okW xs ys
  · have o := equal_op (n := xs.length) (ins := List.replicate g.inputs false) hw hx hy (by simp) rfl h.2.2 h.1 h.2.1 (by omega)
    exact ⟨o.grew, o.lit⟩
  · rw [show equalF g xs ys = ⟨g, 0⟩ from if_neg h]
    exact ⟨Grew.refl _ _, lit_zero _⟩
theorem lessF_all (hw : GWf g) (hx : areLit g xs) (hy : areLit g ys) (hn : g.nodes + 2000 ≤ 65536) : Grew 48 g (lessF g xs ys).g ∧ isLit (lessF g xs ys).g (lessF g xs ys).x := by
  by_cases h : okW xs ys
  · have o := less_op (n := xs.length) (ins := List.replicate g.inputs false) hw hx hy (by simp) rfl h.2.2 h.1 h.2.1 (by omega)
    exact ⟨o.grew, o.lit⟩
  · rw [show lessF g xs ys = ⟨g, 0⟩ from if_neg h]
    exact ⟨Grew.refl _ _, lit_zero _⟩
theorem divideF_all (hw : GWf g) (hx : areLit g xs) (hy : areLit g ys) (hn : g.nodes + 2000 ≤ 65536) : Grew 1400 g (divideF g xs ys).g ∧ areLit (divideF g xs ys).g (divideF g xs ys).q ∧ areLit (divideF g xs ys).g (divideF g xs ys).r ∧ (divideF g xs ys).q.length = okN xs ys ∧ (divideF g xs ys).r.length = okN xs ys := by
  unfold okN
  by_cases h : okW xs ys
  · rw [if_pos h]
    obtain ⟨qs, rs, G, Q, R, _⟩ := divide_sem (g := g) (xs := xs) (ys := ys) (n := xs.length) (ins := List.replicate g.inputs false) ⟨hw, by simp⟩ ⟨hx, rfl, rfl⟩ ⟨hy, h.2.2, rfl⟩ h.1 h.2.1 hn
    exact ⟨G.grew, Q.lits, R.lits, Q.len, R.len⟩
  · rw [if_neg h, show divideF g xs ys = ⟨g, [], []⟩ from if_neg h]
    exact ⟨Grew.refl _ _, no_lits _, no_lits _, rfl, rfl⟩
end

section
variable {B0 p m k : Nat} {A A1 A2 : Option Addr} {c c1 c2 : Nat} {g0 g : GS} {x : Int} {xs ys : List Int} {w : World} {n1 n2 N d : Nat}
theorem WordRet.step (E : Env B0 p m g0 k w g) {F : ChS} (h1 : Grew d g F.g ∧ areLit F.g F.out ∧ F.out.length = N) {e : Ending} {w' : World} (h : WordRet B0 p m w F.g F.out e w') : WStep B0 p m g0 k d w g F.g F.out N e w' := by
  obtain ⟨h1, h2, h3⟩ := h1
  obtain ⟨v, A3, c3, rfl, ho, hbd, hf⟩ := h
  obtain ⟨A4, c4, rfl, hs4⟩ := ho.sl B0
  rw [h3] at ho
  exact ⟨A4, c4, by rw [h3], ho, hs4, h3, h2, h1, ⟨Nat.le_trans E.hB hf.size, ⟨A3, c3, hbd⟩, h1.wf E.wf, E.grew.trans h1⟩, hf⟩
theorem GRet.step (E : Env B0 p m g0 k w g) {F : LitS} (h1 : Grew d g F.g ∧ isLit F.g F.x) {e : Ending} {w' : World} (h : GRet B0 p m w F.g F.x e w') : LStep B0 p m g0 k d w g F.g F.x e w' := by
  obtain ⟨h1, h2⟩ := h1
  obtain ⟨A3, c3, rfl, hbd, hf⟩ := h
  exact ⟨rfl, h2, h1, ⟨Nat.le_trans E.hB hf.size, ⟨A3, c3, hbd⟩, h1.wf E.wf, E.grew.trans h1⟩, hf⟩
theorem Env.room (E : Env B0 p m g0 k w g) (hk : g0.nodes + k + 2000 ≤ 65536) : g.nodes + 2000 ≤ 65536 := by have := E.grew.nodes; omega
variable (E : Env B0 p m g0 k w g) (hk : g0.nodes + k + 2000 ≤ 65536) (hl1 : xs.length = n1)
include E hk hl1
theorem envA_neg (hN : okN1 xs = N) (hx : areLit g xs) (hs : SlI w B0 A1 c1 xs) :
    Calls Try.prog 46 #[.pointer (some ⟨p, 0, none⟩), .slice A1 n1 c1] w (WStep B0 p m g0 k 81 w g (negF g xs).g (negF g xs).out N) := by
  subst hl1 hN
  obtain ⟨A', c', hb⟩ := E.bd
  have hr := E.room hk
  exact (neg_any E.hB hb E.wf (by omega) hx hs).mono fun e w' h => h.step E (negF_all E.wf hx hr)
variable (hl2 : ys.length = n2) (hx : areLit g xs) (hy : areLit g ys) (hs : SlI w B0 A1 c1 xs) (hs2 : SlI w B0 A2 c2 ys)
include hl2 hx hy hs hs2
theorem envA_equal : Calls Try.prog 44 #[.pointer (some ⟨p, 0, none⟩), .slice A1 n1 c1, .slice A2 n2 c2] w (LStep B0 p m g0 k 36 w g (equalF g xs ys).g (equalF g xs ys).x) := by
  subst hl1 hl2
  obtain ⟨A', c', hb⟩ := E.bd
  have hr := E.room hk
  exact (equal_any E.hB hb E.wf (by omega) hx hy hs hs2).mono fun e w' h => h.step E (equalF_all E.wf hx hy hr)
theorem envA_less : Calls Try.prog 45 #[.pointer (some ⟨p, 0, none⟩), .slice A1 n1 c1, .slice A2 n2 c2] w (LStep B0 p m g0 k 48 w g (lessF g xs ys).g (lessF g xs ys).x) := by
  subst hl1 hl2
  obtain ⟨A', c', hb⟩ := E.bd
  have hr := E.room hk
  exact (less_any E.hB hb E.wf (by omega) hx hy hs hs2).mono fun e w' h => h.step E (lessF_all E.wf hx hy hr)
variable (hN : okN xs ys = N)
include hN
theorem envA_add : Calls Try.prog 40 #[.pointer (some ⟨p, 0, none⟩), .slice A1 n1 c1, .slice A2 n2 c2] w (WStep B0 p m g0 k 81 w g (addF g xs ys).g (addF g xs ys).out N) := by
  subst hl1 hl2 hN
  obtain ⟨A', c', hb⟩ := E.bd
  have hr := E.room hk
  exact (add_any E.hB hb E.wf (by omega) hx hy hs hs2).mono fun e w' h => h.step E (addF_all E.wf hx hy hr)
theorem envA_sub : Calls Try.prog 41 #[.pointer (some ⟨p, 0, none⟩), .slice A1 n1 c1, .slice A2 n2 c2] w (WStep B0 p m g0 k 81 w g (subF g xs ys).g (subF g xs ys).out N) := by
  subst hl1 hl2 hN
  obtain ⟨A', c', hb⟩ := E.bd
  have hr := E.room hk
  exact (sub_any E.hB hb E.wf (by omega) hx hy hs hs2).mono fun e w' h => h.step E (subF_all E.wf hx hy hr)
theorem envA_mul : Calls Try.prog 42 #[.pointer (some ⟨p, 0, none⟩), .slice A1 n1 c1, .slice A2 n2 c2] w (WStep B0 p m g0 k 720 w g (mulF g xs ys).g (mulF g xs ys).out N) := by
  subst hl1 hl2 hN
  obtain ⟨A', c', hb⟩ := E.bd
  have hr := E.room hk
  exact (mul_any E.hB hb E.wf (by omega) hx hy hs hs2).mono fun e w' h => h.step E (mulF_all E.wf hx hy hr)
theorem envA_choose (hc : isLit g x) : Calls Try.prog 43 #[.pointer (some ⟨p, 0, none⟩), .int .i64 x, .slice A1 n1 c1, .slice A2 n2 c2] w (WStep B0 p m g0 k 27 w g (chooseF2 g x xs ys).g (chooseF2 g x xs ys).out N) := by
  subst hl1 hl2 hN
  obtain ⟨A', c', hb⟩ := E.bd
  have hr := E.room hk
  exact (Choose_any E.hB hb E.wf (by omega) hc hx hy hs hs2).mono fun e w' h => h.step E (chooseF2_all E.wf hc hx hy hr)
omit hl1 hl2 hx hy hs hs2 hN E hk
def DStep (B0 p m : Nat) (g0 : GS) (k : Nat) (w : World) (g : GS) (s : DivS) (N : Nat) (e : Ending) (w' : World) : Prop :=
  ∃ Aq cq Ar cr, e = .returned (.tuple #[.slice Aq N cq, .slice Ar N cr]) ∧ SlI w' B0 Aq cq s.q ∧ SlI w' B0 Ar cr s.r ∧ s.q.length = N ∧ s.r.length = N ∧ areLit s.g s.q ∧ areLit s.g s.r ∧ Grew 1400 g s.g ∧ Env B0 p m g0 (k + 1400) w' s.g ∧ Fr B0 [116, 123] [m] w w'
include E hk hl1 hl2 hx hy hs hs2 hN
theorem envA_divide : Calls Try.prog 39 #[.pointer (some ⟨p, 0, none⟩), .slice A1 n1 c1, .slice A2 n2 c2] w (DStep B0 p m g0 k w g (divideF g xs ys) N) := by
  subst hl1 hl2 hN
  obtain ⟨A', c', hb⟩ := E.bd
  have hr := E.room hk
  refine (divide_any E.hB hb E.wf hr hx hy hs hs2).mono ?_
  rintro e w' ⟨Aq, cq, Ar, cr, A', c', rfl, hq, hr2, hbd, hf⟩
  obtain ⟨h1, h2, h3, h4, h5⟩ := divideF_all E.wf hx hy hr
  exact ⟨Aq, cq, Ar, cr, by rw [h4, h5], hq, hr2, h4, h5, h2, h3, h1, ⟨Nat.le_trans E.hB hf.size, ⟨A', c', hbd⟩, h1.wf E.wf, E.grew.trans h1⟩, hf⟩
end

/-! ### bitvec.Divide -/
def quoW (a x y : Int) : Int := if wrapW a y = 0 then 0 else wrapW a ((wrapW a x).tdiv (wrapW a y))
def remW (a x y : Int) : Int := if wrapW a y = 0 then wrapW a x else (wrapW a x).tmod (wrapW a y)
theorem wrapW_small (a n : Int) : -128 ≤ wrapW a n ∧ wrapW a n ≤ 127 := by
  by_cases h : 2 ≤ a ∧ a ≤ 8
  · obtain ⟨h1, h2⟩ := h
    rcases width_cases h1 h2 with rfl | rfl | rfl | rfl | rfl | rfl | rfl <;> (unfold wrapW; simp [Int.bmod]; omega)
  · rw [show wrapW a n = 0 from if_neg h]; omega
theorem bdivide_any (a x y : Int) (w : World) :
    Calls Try.prog 48 #[.int .i64 a, .int .i64 x, .int .i64 y] w fun e w' => e = .returned (.tuple #[.int .i64 (quoW a x y), .int .i64 (remW a x y)]) ∧ w = w' := by
  obtain ⟨X, hX⟩ : ∃ X, wrapW a x = X := ⟨_, rfl⟩
  obtain ⟨Y, hY⟩ : ∃ Y, wrapW a y = Y := ⟨_, rfl⟩
  have bx := wrapW_small a x
  have by' := wrapW_small a y
  unfold quoW remW
  rw [hX, hY]
  rw [hX] at bx
  rw [hY] at by'
  obtain ⟨x1, x2⟩ := bx
  obtain ⟨y1, y2⟩ := by'
  have HX := Lib.hid hX
  have HY := Lib.hid hY
  clear hX hY
  by_cases h : Y = 0
  · subst h
    go_enter Try.func48, Try.ntmps48
    go_wp2_with (first
      | (go_at_call_of 25 (Value.int .i64 x); refine (wrap_any a x _).mono ?_; rw [HX.out]; rintro e w' ⟨rfl, rfl⟩)
      | (go_at_call_of 25 (Value.int .i64 y); refine (wrap_any a y _).mono ?_; rw [HY.out]; rintro e w' ⟨rfl, rfl⟩))
    go_ret2
    exact ⟨rfl, rfl⟩
  · have hne : (Y == 0) = false := by simp [h]
    obtain ⟨q, hq⟩ : ∃ q, X.tdiv Y = q := ⟨_, rfl⟩
    have hr : X.tmod Y = X - Y * q := by rw [Int.tmod_def, hq]
    have hqb : q.natAbs ≤ 128 := by rw [← hq, Int.natAbs_tdiv]; exact Nat.le_trans (Nat.div_le_self X.natAbs Y.natAbs) (by omega)
    have hq1 : -128 ≤ q := by omega
    have hq2 : q ≤ 128 := by omega
    have hw1 : IntKind.i64.wrap q = q := by rw [IntKind.wrap_i64]; omega
    have hmb : (Y * q).natAbs ≤ 16384 := by rw [Int.natAbs_mul]; exact Nat.mul_le_mul (show Y.natAbs ≤ 128 by omega) hqb
    obtain ⟨z, hz⟩ : ∃ z, Y * q = z := ⟨_, rfl⟩
    rw [hz] at hr hmb
    have hz1 : -16384 ≤ z := by omega
    have hz2 : z ≤ 16384 := by omega
    rw [hr, if_neg h, if_neg h, hq]
    clear hr hmb hqb
    go_enter Try.func48, Try.ntmps48
    go_wp2_with (first
      | (go_at_call_of 25 (Value.int .i64 x); refine (wrap_any a x _).mono ?_; rw [HX.out]; rintro e w' ⟨rfl, rfl⟩)
      | (go_at_call_of 25 (Value.int .i64 y); refine (wrap_any a y _).mono ?_; rw [HY.out]; rintro e w' ⟨rfl, rfl⟩)
      | (go_at_call_of 25 (Value.int .i64 q); refine (wrap_any a q _).mono ?_; rintro e w' ⟨rfl, rfl⟩))
    go_ret2
    exact ⟨rfl, rfl⟩
end Go.Proofs.Ytgmcajojigedaaa
