/- Words of literals: Add, Sub, Neg, Choose. -/
import Derived.Test.YtgmcajojigedaaaBy
set_option linter.unusedSimpArgs false
set_option linter.unusedVariables false
namespace Go.Proofs.Ytgmcajojigedaaa
open Go.RowKit

/-- Are they two words? -/
def okW (x y : List Int) : Prop := 1 ≤ x.length ∧ x.length ≤ 8 ∧ y.length = x.length
instance (x y : List Int) : Decidable (okW x y) := inferInstanceAs (Decidable (_ ∧ _ ∧ _))
def okW1 (x : List Int) : Prop := 1 ≤ x.length ∧ x.length ≤ 8
instance (x : List Int) : Decidable (okW1 x) := inferInstanceAs (Decidable (_ ∧ _))
theorem okW_yes {x y : List Int} (h : okW x y) : wordsB [x, y] = true := by rw [wordsB_two]; exact decide_eq_true h
theorem okW_no {x y : List Int} (h : ¬ okW x y) : wordsB [x, y] = false := by rw [wordsB_two]; exact decide_eq_false h
theorem okW1_yes {x : List Int} (h : okW1 x) : wordsB [x] = true := by rw [wordsB_one]; exact decide_eq_true h
theorem okW1_no {x : List Int} (h : ¬ okW1 x) : wordsB [x] = false := by rw [wordsB_one]; exact decide_eq_false h

def addF (g : GS) (x y : List Int) : ChS := if okW x y then ⟨(sumF g x y 0).g, (sumF g x y 0).out⟩ else ⟨g, []⟩
def subF (g : GS) (x y : List Int) : ChS := if okW x y then ⟨(sumF g x (y.map notL) 1).g, (sumF g x (y.map notL) 1).out⟩ else ⟨g, []⟩
def negF (g : GS) (x : List Int) : ChS := if okW1 x then ⟨(sumF g (bitsI x.length 0) (x.map notL) 1).g, (sumF g (bitsI x.length 0) (x.map notL) 1).out⟩ else ⟨g, []⟩
def chooseF2 (g : GS) (c : Int) (x y : List Int) : ChS := if okW x y then chooseF g c x y else ⟨g, []⟩

section
variable {B0 p m : Nat} {A A1 A2 : Option Addr} {c c1 c2 : Nat} {g : GS} {xs ys : List Int} {w : World}
theorem below_alloc (w : World) (o : Obj) : Below w.heap.size w (w.alloc o) := (Below.refl _ _).alloc (Nat.le_refl _) _

set_option maxHeartbeats 1000000 in
theorem add_any (hB : B0 ≤ w.heap.size) (hb : Bd B0 w p m A c g) (hw : GWf g) (hn : g.nodes + 81 ≤ 65536) (hxl : areLit g xs) (hyl : areLit g ys) (h1 : SlI w B0 A1 c1 xs) (h2 : SlI w B0 A2 c2 ys) :
    Calls Try.prog 40 #[.pointer (some ⟨p, 0, none⟩), .slice A1 xs.length c1, .slice A2 ys.length c2] w (WordRet B0 p m w (addF g xs ys).g (addF g xs ys).out) := by
  have HB := Lib.hid hb
  have H1 := Lib.hid h1
  have H2 := Lib.hid h2
  by_cases h : okW xs ys
  · have hok := okW_yes h
    have e : Hid (addF g xs ys = ⟨(sumF g xs ys 0).g, (sumF g xs ys 0).out⟩) := if_pos h
    have HL := Lib.hid h
    have HXL := Lib.hid hxl
    have HYL := Lib.hid hyl
    have HW := Lib.hid hw
    clear hb h1 h2 h hxl hyl hw
    go_enter Try.func40, Try.ntmps40
    go_wp2_with (first
      | (go_at_call 102; refine (words_any [xs, ys] _ 2 B0 _ (slw_two H1.out H2.out) (by simp) (by simp)).mono ?_; rintro e w' ⟨rfl, rfl⟩)
      | (go_at_call 104; refine (sum_any B0 p m A A1 A2 c c1 c2 g 0 xs ys _ (by simp; omega) (HB.out.below (below_alloc _ _)) HW.out (by have := HL.out.2.2; omega) (by have := HL.out.2.1; omega) (by have := HL.out.2.1; omega) (lit_zero g) HXL.out HYL.out (H1.out.alloc _) (H2.out.alloc _)).mono ?_; rintro e w2 ⟨v, A', c', rfl, ho, hbd, hf⟩; have HO := Lib.hid ho; have HBD := Lib.hid hbd; have HF := Lib.hid hf; clear ho hbd hf))
    go_ret
    refine ⟨_, A', c', rfl, ?_, ?_, (Fr.of_below (below_alloc _ _)).trans HF.out⟩
    · rw [e.out]; exact HO.out.mono (by simp)
    · rw [e.out]; exact HBD.out
  · have hok := okW_no h
    have e : Hid (addF g xs ys = ⟨g, []⟩) := if_neg h
    clear hb h1 h2 h hxl hyl hw
    go_enter Try.func40, Try.ntmps40
    go_wp2_with (go_at_call 102; refine (words_any [xs, ys] _ 2 B0 _ (slw_two H1.out H2.out) (by simp) (by simp)).mono ?_; rintro e w' ⟨rfl, rfl⟩)
    go_ret
    refine ⟨_, A, c, rfl, ?_, ?_, Fr.of_below (below_alloc _ _)⟩
    · rw [e.out]; exact OwnOf.nil _ _
    · rw [e.out]; exact HB.out.below (below_alloc _ _)

set_option maxHeartbeats 1000000 in
theorem sub_any (hB : B0 ≤ w.heap.size) (hb : Bd B0 w p m A c g) (hw : GWf g) (hn : g.nodes + 81 ≤ 65536) (hxl : areLit g xs) (hyl : areLit g ys) (h1 : SlI w B0 A1 c1 xs) (h2 : SlI w B0 A2 c2 ys) :
    Calls Try.prog 41 #[.pointer (some ⟨p, 0, none⟩), .slice A1 xs.length c1, .slice A2 ys.length c2] w (WordRet B0 p m w (subF g xs ys).g (subF g xs ys).out) := by
  have HB := Lib.hid hb
  have H1 := Lib.hid h1
  have H2 := Lib.hid h2
  by_cases h : okW xs ys
  · have hok := okW_yes h
    have e : Hid (subF g xs ys = ⟨(sumF g xs (ys.map notL) 1).g, (sumF g xs (ys.map notL) 1).out⟩) := if_pos h
    have HL := Lib.hid h
    have HXL := Lib.hid hxl
    have HYL := Lib.hid hyl
    have HW := Lib.hid hw
    obtain ⟨zs, hz⟩ : ∃ zs, ys.map notL = zs := ⟨_, rfl⟩
    have hzl : areLit g zs := by rw [← hz]; exact hyl.map_notL
    have hln : Hid (zs.length = ys.length) := by show _ = _; rw [← hz]; simp
    have HZ := Lib.hid hz
    have HZL := Lib.hid hzl
    rw [hz] at e
    clear hz hzl
    clear hb h1 h2 h hxl hyl hw
    go_enter Try.func41, Try.ntmps41
    go_wp2_with (first
      | (go_at_call 102; refine (words_any [xs, ys] _ 2 B0 _ (slw_two H1.out H2.out) (by simp) (by simp)).mono ?_; rintro e w' ⟨rfl, rfl⟩)
      | (go_at_call 105; refine (inverse_any ys A2 c2 B0 _ (H2.out.alloc _) (by have := HL.out.2; omega) (HYL.out.bound (by omega))).mono ?_; rintro e w1 ⟨v1, rfl, ho1, hb1⟩; rw [HZ.out] at ho1; obtain ⟨A3, c3, rfl, hs3⟩ := ho1.sl B0; have HS3 := Lib.hid hs3; have HB1 : Hid (Below w.heap.size w w1) := (below_alloc w _).trans (hb1.mono (by simp)); clear ho1 hb1 hs3)
      | (go_at_call 104; refine (sum_any B0 p m A A1 A3 c c1 c3 g 1 xs zs w1 (Nat.le_trans hB HB1.out.size) (HB.out.below HB1.out) HW.out (by rw [hln.out]; have := HL.out.2.2; omega) (by have := HL.out.2.1; omega) (by have := HL.out.2.1; omega) (lit_one g) HXL.out HZL.out (H1.out.below HB1.out) HS3.out).mono ?_; rintro e w2 ⟨v, A', c', rfl, ho, hbd, hf⟩; have HO := Lib.hid ho; have HBD := Lib.hid hbd; have HF := Lib.hid hf; clear ho hbd hf))
    go_ret
    refine ⟨_, A', c', rfl, ?_, ?_, (Fr.of_below HB1.out).trans HF.out⟩
    · rw [e.out]; exact HO.out.mono HB1.out.size
    · rw [e.out]; exact HBD.out
  · have hok := okW_no h
    have e : Hid (subF g xs ys = ⟨g, []⟩) := if_neg h
    clear hb h1 h2 h hxl hyl hw
    go_enter Try.func41, Try.ntmps41
    go_wp2_with (go_at_call 102; refine (words_any [xs, ys] _ 2 B0 _ (slw_two H1.out H2.out) (by simp) (by simp)).mono ?_; rintro e w' ⟨rfl, rfl⟩)
    go_ret
    refine ⟨_, A, c, rfl, ?_, ?_, Fr.of_below (below_alloc _ _)⟩
    · rw [e.out]; exact OwnOf.nil _ _
    · rw [e.out]; exact HB.out.below (below_alloc _ _)

set_option maxHeartbeats 1000000 in
theorem neg_any (hB : B0 ≤ w.heap.size) (hb : Bd B0 w p m A c g) (hw : GWf g) (hn : g.nodes + 81 ≤ 65536) (hxl : areLit g xs) (h1 : SlI w B0 A1 c1 xs) :
    Calls Try.prog 46 #[.pointer (some ⟨p, 0, none⟩), .slice A1 xs.length c1] w (WordRet B0 p m w (negF g xs).g (negF g xs).out) := by
  have HB := Lib.hid hb
  have H1 := Lib.hid h1
  by_cases h : okW1 xs
  · have hok := okW1_yes h
    have e : Hid (negF g xs = ⟨(sumF g (bitsI xs.length 0) (xs.map notL) 1).g, (sumF g (bitsI xs.length 0) (xs.map notL) 1).out⟩) := if_pos h
    have HL := Lib.hid h
    have HXL := Lib.hid hxl
    have HW := Lib.hid hw
    obtain ⟨zs, hz⟩ : ∃ zs, xs.map notL = zs := ⟨_, rfl⟩
    obtain ⟨us, hu⟩ : ∃ us, bitsI xs.length 0 = us := ⟨_, rfl⟩
    have hzl : areLit g zs := by rw [← hz]; exact hxl.map_notL
    have hul : areLit g us := by rw [← hu]; exact areLit.bits _ _
    have hln : Hid (zs.length = xs.length ∧ us.length = xs.length) := by show _ ∧ _; rw [← hz, ← hu]; simp [bitsI]
    have HZ := Lib.hid hz
    have HZL := Lib.hid hzl
    have HU := Lib.hid hu
    have HUL := Lib.hid hul
    rw [hz, hu] at e
    clear hz hzl hu hul
    clear hb h1 h hxl hw
    go_enter Try.func46, Try.ntmps46
    go_wp2_with (first
      | (go_at_call 102; refine (words_any [xs] _ 1 B0 _ (slw_one H1.out) (by simp) (by simp)).mono ?_; rintro e w' ⟨rfl, rfl⟩)
      | (go_at_call 94; refine (constant_any xs.length 0 _ (by have := HL.out.2; omega)).mono ?_; rintro e w0 ⟨v0, rfl, ho0, hb0⟩; rw [HU.out] at ho0; obtain ⟨A4, c4, rfl, hs4⟩ := ho0.sl B0; have HS4 := Lib.hid hs4; have HB0 : Hid (Below w.heap.size w w0) := (below_alloc w _).trans (hb0.mono (by simp)); clear ho0 hb0 hs4)
      | (go_at_call 105; refine (inverse_any xs A1 c1 B0 w0 (H1.out.below HB0.out) (by have := HL.out.2; omega) (HXL.out.bound (by omega))).mono ?_; rintro e w1 ⟨v1, rfl, ho1, hb1⟩; rw [HZ.out] at ho1; obtain ⟨A3, c3, rfl, hs3⟩ := ho1.sl B0; have HS3 := Lib.hid hs3; have HS5 := Lib.hid (HS4.out.below hb1); have HB1 : Hid (Below w.heap.size w w1) := HB0.out.trans (hb1.mono HB0.out.size); clear ho1 hb1 hs3 HS4 HB0)
      | (go_at_call 104; refine (sum_any B0 p m A A4 A3 c c4 c3 g 1 us zs w1 (Nat.le_trans hB HB1.out.size) (HB.out.below HB1.out) HW.out (by rw [hln.out.1, hln.out.2]; exact Nat.le_refl _) (by rw [hln.out.2]; have := HL.out.2; omega) (by rw [hln.out.2]; have := HL.out.2; omega) (lit_one g) HUL.out HZL.out HS5.out HS3.out).mono ?_; rintro e w2 ⟨v, A', c', rfl, ho, hbd, hf⟩; have HO := Lib.hid ho; have HBD := Lib.hid hbd; have HF := Lib.hid hf; clear ho hbd hf))
    go_ret
    refine ⟨_, A', c', rfl, ?_, ?_, (Fr.of_below HB1.out).trans HF.out⟩
    · rw [e.out]; exact HO.out.mono HB1.out.size
    · rw [e.out]; exact HBD.out
  · have hok := okW1_no h
    have e : Hid (negF g xs = ⟨g, []⟩) := if_neg h
    clear hb h1 h hxl hw
    go_enter Try.func46, Try.ntmps46
    go_wp2_with (go_at_call 102; refine (words_any [xs] _ 1 B0 _ (slw_one H1.out) (by simp) (by simp)).mono ?_; rintro e w' ⟨rfl, rfl⟩)
    go_ret
    refine ⟨_, A, c, rfl, ?_, ?_, Fr.of_below (below_alloc _ _)⟩
    · rw [e.out]; exact OwnOf.nil _ _
    · rw [e.out]; exact HB.out.below (below_alloc _ _)

set_option maxHeartbeats 1000000 in
theorem Choose_any {k : Int} (hB : B0 ≤ w.heap.size) (hb : Bd B0 w p m A c g) (hw : GWf g) (hn : g.nodes + 81 ≤ 65536) (hk : isLit g k) (hxl : areLit g xs) (hyl : areLit g ys) (h1 : SlI w B0 A1 c1 xs) (h2 : SlI w B0 A2 c2 ys) :
    Calls Try.prog 43 #[.pointer (some ⟨p, 0, none⟩), .int .i64 k, .slice A1 xs.length c1, .slice A2 ys.length c2] w (WordRet B0 p m w (chooseF2 g k xs ys).g (chooseF2 g k xs ys).out) := by
  have HB := Lib.hid hb
  have H1 := Lib.hid h1
  have H2 := Lib.hid h2
  by_cases h : okW xs ys
  · have hok := okW_yes h
    have e : Hid (chooseF2 g k xs ys = chooseF g k xs ys) := if_pos h
    have HL := Lib.hid h
    have HXL := Lib.hid hxl
    have HYL := Lib.hid hyl
    have HK := Lib.hid hk
    have HW := Lib.hid hw
    clear hb h1 h2 h hxl hyl hw hk
    go_enter Try.func43, Try.ntmps43
    go_wp2_with (first
      | (go_at_call 102; refine (words_any [xs, ys] _ 2 B0 _ (slw_two H1.out H2.out) (by simp) (by simp)).mono ?_; rintro e w' ⟨rfl, rfl⟩)
      | (go_at_call 103; refine (choose_any B0 p m A A1 A2 c c1 c2 g k xs ys _ (by simp; omega) (HB.out.below (below_alloc _ _)) HW.out (by have := HL.out.2.2; omega) (by have := HL.out.2.1; omega) (by have := HL.out.2.1; omega) HK.out HXL.out HYL.out (H1.out.alloc _) (H2.out.alloc _)).mono ?_; rintro e w2 ⟨v, A', c', rfl, ho, hbd, hf⟩; have HO := Lib.hid ho; have HBD := Lib.hid hbd; have HF := Lib.hid hf; clear ho hbd hf))
    go_ret
    refine ⟨_, A', c', rfl, ?_, ?_, (Fr.of_below (below_alloc _ _)).trans HF.out⟩
    · rw [e.out]; exact HO.out.mono (by simp)
    · rw [e.out]; exact HBD.out
  · have hok := okW_no h
    have e : Hid (chooseF2 g k xs ys = ⟨g, []⟩) := if_neg h
    clear hb h1 h2 h hxl hyl hw hk
    go_enter Try.func43, Try.ntmps43
    go_wp2_with (go_at_call 102; refine (words_any [xs, ys] _ 2 B0 _ (slw_two H1.out H2.out) (by simp) (by simp)).mono ?_; rintro e w' ⟨rfl, rfl⟩)
    go_ret
    refine ⟨_, A, c, rfl, ?_, ?_, Fr.of_below (below_alloc _ _)⟩
    · rw [e.out]; exact OwnOf.nil _ _
    · rw [e.out]; exact HB.out.below (below_alloc _ _)
end
end Go.Proofs.Ytgmcajojigedaaa
