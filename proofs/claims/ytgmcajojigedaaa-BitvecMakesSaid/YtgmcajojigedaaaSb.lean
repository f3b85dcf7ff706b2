/- What the operators on words compute: plain laws, no program. -/
import Derived.Test.YtgmcajojigedaaaSa
import Derived.Test.YtgmcajojigedaaaFc
set_option linter.unusedSimpArgs false
set_option linter.unusedVariables false
namespace Go.Proofs.Ytgmcajojigedaaa

theorem emod_of {a b P c : Int} (h0 : 0 ≤ a) (h1 : a < P) (h : b = a + P * c) : a = b % P := by
  rw [h, Int.add_mul_emod_self_left, Int.emod_eq_of_lt h0 h1]
theorem valU_append (a : List Bool) : ∀ b : List Bool, valU (a ++ b) = valU a + 2 ^ a.length * valU b := by
  induction a with
  | nil => intro b; simp [valU]
  | cons x r ih => intro b; rw [List.cons_append, valU, valU, ih, List.length_cons, Int.pow_succ, Int.mul_add, ← Int.mul_assoc, Int.mul_comm 2 (2 ^ r.length)]; omega
theorem valU_set : ∀ (l : List Bool) (j : Nat) (b : Bool), l[j]? = some false → valU (l.set j b) = valU l + 2 ^ j * b01 b
  | [], j, b, h => by simp at h
  | x :: l, 0, b, h => by simp at h; subst h; simp [valU, b01]; omega
  | x :: l, j + 1, b, h => by
    rw [List.set_cons_succ, valU, valU, valU_set l j b (by simpa using h), Int.pow_succ, Int.mul_add, ← Int.mul_assoc, Int.mul_comm 2 (2 ^ j)]; omega
theorem pow_pos2 (n : Nat) : (0 : Int) < 2 ^ n := Int.pow_pos (by omega)

section
variable {g : GS} {xs ys : List Int} {ins : List Bool} {n : Nat}
theorem sum_op {c : Int} (hw : GWf g) (hx : areLit g xs) (hy : areLit g ys) (hc : isLit g c) (hl : ins.length = g.inputs) (e1 : xs.length = n) (e2 : ys.length = n) (h9 : n ≤ 9) (hn : g.nodes + 81 ≤ 65536) :
    OpW 81 g (sumF g xs ys c).g (sumF g xs ys c).out n ∧ isLit (sumF g xs ys c).g (sumF g xs ys c).c ∧
    valU (evs (sumF g xs ys c).g ins (sumF g xs ys c).out) + 2 ^ n * b01 (ev (sumF g xs ys c).g ins (sumF g xs ys c).c) = valU (evs g ins xs) + valU (evs g ins ys) + b01 (ev g ins c) := by
  obtain ⟨s1, s2, s3, s4⟩ := sumF_spec hx hy hc (by omega) hn
  obtain ⟨k1, k2⟩ := sumK_sem hw hx hy hc hl (by omega) xs.length (Nat.le_refl _) (by omega)
  rw [List.take_of_length_le (by rw [evs_length]; exact Nat.le_refl _), List.take_of_length_le (by rw [evs_length]; omega)] at k2
  subst e1
  exact ⟨⟨s1, s2, k1, s4⟩, s3, k2⟩
theorem chooseK_sem {c : Int} (hw : GWf g) (hc : isLit g c) (hx : areLit g xs) (hy : areLit g ys) (hl : ins.length = g.inputs) (hxy : xs.length ≤ ys.length) : ∀ k, k ≤ xs.length → g.nodes + 3 * k ≤ 65536 →
    Ext g (chooseK g c xs ys k).g ∧ evs (chooseK g c xs ys k).g ins (chooseK g c xs ys k).out = (if ev g ins c then evs g ins xs else evs g ins ys).take k
  | 0, _, _ => ⟨Ext.refl _, by simp [chooseK, evs]⟩
  | k + 1, hk, hn => by
    obtain ⟨hE, ih⟩ := chooseK_sem hw hc hx hy hl hxy k (by omega) (by omega)
    obtain ⟨h1, h2⟩ := chooseK_spec hx hy hc k (by omega)
    have n1 := h1.nodes
    obtain ⟨s, hs⟩ : ∃ s, chooseK g c xs ys k = s := ⟨_, rfl⟩
    rw [hs] at hE ih h1 h2 n1
    rw [chooseK, hs]
    have hlS := hl.trans hE.inputs.symm
    have o := mux_op (h1.wf hw) (h1.lit hc) (h1.lit (hx.getD k)) (h1.lit (hy.getD k)) (by omega) hlS
    refine ⟨hE.trans o.ext, ?_⟩
    show evs (muxF s.g c (xs.getD k 0) (ys.getD k 0)).1 ins (s.out ++ [(muxF s.g c (xs.getD k 0) (ys.getD k 0)).2]) = _
    rw [evs_append, evs_ext o.ext hlS h2, ih]
    show _ ++ [ev (muxF s.g c (xs.getD k 0) (ys.getD k 0)).1 ins (muxF s.g c (xs.getD k 0) (ys.getD k 0)).2] = _
    rw [o.val, ev_ext hE hl hc, ev_ext hE hl (hx.getD k), ev_ext hE hl (hy.getD k), List.take_add_one]
    congr 1
    split
    · rw [evs_getD (by omega)]; rfl
    · rw [evs_getD (by omega)]; rfl
theorem choose_op {c : Int} (hw : GWf g) (hc : isLit g c) (hx : areLit g xs) (hy : areLit g ys) (hl : ins.length = g.inputs) (e1 : xs.length = n) (e2 : ys.length = n) (h9 : n ≤ 9) (hn : g.nodes + 27 ≤ 65536) :
    OpW 27 g (chooseF g c xs ys).g (chooseF g c xs ys).out n ∧ evs (chooseF g c xs ys).g ins (chooseF g c xs ys).out = if ev g ins c then evs g ins xs else evs g ins ys := by
  obtain ⟨s1, s2, s3⟩ := chooseF_spec hc hx hy (by omega) hn
  obtain ⟨k1, k2⟩ := chooseK_sem hw hc hx hy hl (by omega) xs.length (Nat.le_refl _) (by omega)
  refine ⟨⟨s1, s2, k1, s3.trans e1⟩, k2.trans (List.take_of_length_le ?_)⟩
  split <;> rw [evs_length] <;> omega
theorem neg_op (hw : GWf g) (hx : areLit g xs) (hl : ins.length = g.inputs) (e1 : xs.length = n) (h1 : 1 ≤ n) (h8 : n ≤ 8) (hn : g.nodes + 81 ≤ 65536) :
    OpW 81 g (negF g xs).g (negF g xs).out n ∧ valU (evs (negF g xs).g ins (negF g xs).out) = (-valU (evs g ins xs)) % 2 ^ n := by
  subst e1
  rw [show negF g xs = ⟨(sumF g (bitsI xs.length 0) (xs.map notL) 1).g, (sumF g (bitsI xs.length 0) (xs.map notL) 1).out⟩ from if_pos ⟨by omega, by omega⟩]
  obtain ⟨o, _, v⟩ := sum_op (n := xs.length) (xs := bitsI xs.length 0) (ys := xs.map notL) (c := 1) hw (areLit.bits _ _) hx.map_notL (lit_one g) hl (bitsI_length _ _) (List.length_map _) (by omega) hn
  refine ⟨o, ?_⟩
  rw [evs_bits, valU_bitsOf, evs_notL hx, valU_not, ev_one, evs_length] at v
  have hL : (evs (sumF g (bitsI xs.length 0) (xs.map notL) 1).g ins (sumF g (bitsI xs.length 0) (xs.map notL) 1).out).length = xs.length := by rw [evs_length]; exact o.len
  have b0 := valU_nonneg (evs (sumF g (bitsI xs.length 0) (xs.map notL) 1).g ins (sumF g (bitsI xs.length 0) (xs.map notL) 1).out)
  have b1 := valU_lt (evs (sumF g (bitsI xs.length 0) (xs.map notL) 1).g ins (sumF g (bitsI xs.length 0) (xs.map notL) 1).out)
  rw [hL] at b1
  refine emod_of b0 b1 (c := b01 (ev (sumF g (bitsI xs.length 0) (xs.map notL) 1).g ins (sumF g (bitsI xs.length 0) (xs.map notL) 1).c) - 1) ?_
  rw [Int.mul_sub, Int.mul_one]
  simp only [Int.zero_emod] at v
  simp only [b01] at v ⊢
  simp at v
  omega
theorem add_op (hw : GWf g) (hx : areLit g xs) (hy : areLit g ys) (hl : ins.length = g.inputs) (e1 : xs.length = n) (e2 : ys.length = n) (h1 : 1 ≤ n) (h8 : n ≤ 8) (hn : g.nodes + 81 ≤ 65536) :
    OpW 81 g (addF g xs ys).g (addF g xs ys).out n ∧ valU (evs (addF g xs ys).g ins (addF g xs ys).out) = (valU (evs g ins xs) + valU (evs g ins ys)) % 2 ^ n := by
  rw [show addF g xs ys = ⟨(sumF g xs ys 0).g, (sumF g xs ys 0).out⟩ from if_pos ⟨by omega, by omega, by omega⟩]
  obtain ⟨o, _, v⟩ := sum_op (n := n) (xs := xs) (ys := ys) (c := 0) hw hx hy (lit_zero g) hl e1 e2 (by omega) hn
  refine ⟨o, ?_⟩
  have hL : (evs (sumF g xs ys 0).g ins (sumF g xs ys 0).out).length = n := by rw [evs_length]; exact o.len
  have b0 := valU_nonneg (evs (sumF g xs ys 0).g ins (sumF g xs ys 0).out)
  have b1 := valU_lt (evs (sumF g xs ys 0).g ins (sumF g xs ys 0).out)
  rw [hL] at b1
  refine emod_of b0 b1 (c := b01 (ev (sumF g xs ys 0).g ins (sumF g xs ys 0).c)) ?_
  rw [ev_zero] at v
  simp only [b01] at v ⊢
  simp at v
  omega
theorem sub_op (hw : GWf g) (hx : areLit g xs) (hy : areLit g ys) (hl : ins.length = g.inputs) (e1 : xs.length = n) (e2 : ys.length = n) (h1 : 1 ≤ n) (h8 : n ≤ 8) (hn : g.nodes + 81 ≤ 65536) :
    OpW 81 g (subF g xs ys).g (subF g xs ys).out n ∧ valU (evs (subF g xs ys).g ins (subF g xs ys).out) = (valU (evs g ins xs) - valU (evs g ins ys)) % 2 ^ n := by
  rw [show subF g xs ys = ⟨(sumF g xs (ys.map notL) 1).g, (sumF g xs (ys.map notL) 1).out⟩ from if_pos ⟨by omega, by omega, by omega⟩]
  obtain ⟨o, _, v⟩ := sum_op (n := n) (xs := xs) (ys := ys.map notL) (c := 1) hw hx hy.map_notL (lit_one g) hl e1 (by rw [List.length_map]; exact e2) (by omega) hn
  refine ⟨o, ?_⟩
  have hL : (evs (sumF g xs (ys.map notL) 1).g ins (sumF g xs (ys.map notL) 1).out).length = n := by rw [evs_length]; exact o.len
  have b0 := valU_nonneg (evs (sumF g xs (ys.map notL) 1).g ins (sumF g xs (ys.map notL) 1).out)
  have b1 := valU_lt (evs (sumF g xs (ys.map notL) 1).g ins (sumF g xs (ys.map notL) 1).out)
  rw [hL] at b1
  rw [evs_notL hy, valU_not, ev_one, evs_length, e2] at v
  refine emod_of b0 b1 (c := b01 (ev (sumF g xs (ys.map notL) 1).g ins (sumF g xs (ys.map notL) 1).c) - 1) ?_
  rw [Int.mul_sub, Int.mul_one]
  simp only [b01] at v ⊢
  simp at v
  omega
theorem evs_take_succ {k : Nat} (hk : k < xs.length) : valU ((evs g ins xs).take (k + 1)) = valU ((evs g ins xs).take k) + 2 ^ k * b01 (ev g ins (xs.getD k 0)) := by
  rw [List.take_add_one, evs_getD hk, Option.toList_some, valU_snoc, List.length_take, evs_length, Nat.min_eq_left (by omega)]
theorem evs_drop {k : Nat} (hk : k < xs.length) : valU ((evs g ins xs).drop k) = b01 (ev g ins (xs.getD k 0)) + 2 * valU ((evs g ins xs).drop (k + 1)) := by
  have h : k < (evs g ins xs).length := by rw [evs_length]; exact hk
  rw [List.drop_eq_getElem_cons h, valU]
  have e : (evs g ins xs)[k] = ev g ins (xs.getD k 0) := by
    have := evs_getD (g := g) (ins := ins) hk
    rw [List.getElem?_eq_getElem h] at this
    exact Option.some.inj this
  rw [e]

/-! ### Mul -/
theorem rowT_sem {k : Nat} (hw : GWf g) (hx : areLit g xs) (hy : areLit g ys) (hl : ins.length = g.inputs) (e1 : xs.length = n) : ∀ t : Nat, k + t ≤ n → g.nodes + t ≤ 65536 →
    Ext g (rowT g xs ys n k t).g ∧ valU (evs (rowT g xs ys n k t).g ins (rowT g xs ys n k t).out) = 2 ^ k * (b01 (ev g ins (ys.getD k 0)) * valU ((evs g ins xs).take t)) ∧
    ∀ j, k + t ≤ j → j < n → (evs (rowT g xs ys n k t).g ins (rowT g xs ys n k t).out)[j]? = some false
  | 0, _, _ => by
    refine ⟨Ext.refl _, ?_, fun j _ hj => ?_⟩
    · show valU (evs g ins (bitsI n 0)) = _
      rw [evs_bits, valU_bitsOf]; simp [valU]
    · show (evs g ins (bitsI n 0))[j]? = _
      rw [evs_bits]; simp [bitsOf, hj]
  | t + 1, hk, hn => by
    obtain ⟨hE, ih, hz⟩ := rowT_sem (k := k) hw hx hy hl e1 t (by omega) (by omega)
    obtain ⟨h1, h2, h3⟩ := rowT_spec (g := g) (xs := xs) (ys := ys) n k hx hy t (by omega)
    have n1 := h1.nodes
    obtain ⟨s, hs⟩ : ∃ s, rowT g xs ys n k t = s := ⟨_, rfl⟩
    rw [hs] at hE ih hz h1 h2 h3 n1
    rw [rowT, hs]
    have hlS := hl.trans hE.inputs.symm
    have o := and_op (h1.wf hw) (h1.lit (hx.getD t)) (h1.lit (hy.getD k)) (by omega) hlS
    have es : evs (andF s.g (xs.getD t 0) (ys.getD k 0)).1 ins (s.out.set (k + t) (andF s.g (xs.getD t 0) (ys.getD k 0)).2) = (evs s.g ins s.out).set (k + t) (ev g ins (xs.getD t 0) && ev g ins (ys.getD k 0)) := by
      rw [← evs_ext o.ext hlS h2, ← ev_ext hE hl (hx.getD t), ← ev_ext hE hl (hy.getD k), ← o.val]
      simp [evs, List.map_set]
    refine ⟨hE.trans o.ext, ?_, fun j hj hj2 => ?_⟩
    · show valU (evs _ ins _) = _
      dsimp only
      rw [es, valU_set _ _ _ (hz _ (Nat.le_refl _) (by omega)), ih, evs_take_succ (by omega), Int.pow_add]
      cases ev g ins (xs.getD t 0) <;> cases ev g ins (ys.getD k 0) <;> simp [b01, Int.mul_add]
    · show (evs _ ins _)[j]? = _
      dsimp only
      rw [es, List.getElem?_set_ne (by omega)]
      exact hz j (by omega) hj2
theorem mulK_sem (hw : GWf g) (hx : areLit g xs) (hy : areLit g ys) (hl : ins.length = g.inputs) (e1 : xs.length = n) (e2 : ys.length = n) (h8 : n ≤ 8) : ∀ k : Nat, k ≤ n → g.nodes + 90 * k ≤ 65536 →
    Ext g (mulK g xs ys k).g ∧ valU (evs (mulK g xs ys k).g ins (mulK g xs ys k).out) = (valU (evs g ins xs) * valU ((evs g ins ys).take k)) % 2 ^ n
  | 0, _, _ => by
    refine ⟨Ext.refl _, ?_⟩
    show valU (evs g ins (bitsI xs.length 0)) = _
    rw [evs_bits, valU_bitsOf]; simp [valU]
  | k + 1, hk, hn => by
    obtain ⟨hE, ih⟩ := mulK_sem hw hx hy hl e1 e2 h8 k (by omega) (by omega)
    obtain ⟨h1, h2, h3⟩ := mulK_spec hx hy (by omega) k (by omega) (by omega)
    have n1 := h1.nodes
    obtain ⟨s, hs⟩ : ∃ s, mulK g xs ys k = s := ⟨_, rfl⟩
    rw [hs] at hE ih h1 h2 h3 n1
    rw [mulK, hs]
    have hlS := hl.trans hE.inputs.symm
    obtain ⟨rE, rv, _⟩ := rowT_sem (k := k) (h1.wf hw) (h1.lits hx) (h1.lits hy) hlS e1 (n - k) (by omega) (by omega)
    obtain ⟨r1, r2, r3⟩ := rowT_spec (g := s.g) (xs := xs) (ys := ys) n k (h1.lits hx) (h1.lits hy) (n - k) (by omega)
    have n2 := r1.nodes
    rw [e1]
    obtain ⟨r, hr⟩ : ∃ r, rowT s.g xs ys n k (n - k) = r := ⟨_, rfl⟩
    rw [hr] at rE rv r1 r2 r3 n2
    rw [hr]
    obtain ⟨o, _, v⟩ := sum_op (n := n) (xs := s.out) (ys := r.out) (c := 0) (ins := ins) (r1.wf (h1.wf hw)) (r1.lits h2) r2 (lit_zero _) (hlS.trans rE.inputs.symm) (h3.trans e1) r3 (by omega) (by omega)
    refine ⟨(hE.trans rE).trans o.ext, ?_⟩
    dsimp only
    have hL : (evs (sumF r.g s.out r.out 0).g ins (sumF r.g s.out r.out 0).out).length = n := by rw [evs_length]; exact o.len
    have b0 := valU_nonneg (evs (sumF r.g s.out r.out 0).g ins (sumF r.g s.out r.out 0).out)
    have b1 := valU_lt (evs (sumF r.g s.out r.out 0).g ins (sumF r.g s.out r.out 0).out)
    rw [hL] at b1
    rw [evs_ext rE hlS h2, ih, rv, ev_zero, ev_ext hE hl (hy.getD k), evs_ext hE hl hx] at v
    have hsplit : valU (evs g ins xs) = valU ((evs g ins xs).take (n - k)) + 2 ^ (n - k) * valU ((evs g ins xs).drop (n - k)) := by
      conv => lhs; rw [← List.take_append_drop (n - k) (evs g ins xs)]
      rw [valU_append, List.length_take, evs_length, Nat.min_eq_left (by omega)]
    rw [evs_take_succ (by omega)]
    have hP : (2 : Int) ^ n = 2 ^ k * 2 ^ (n - k) := by rw [← Int.pow_add]; congr 1; omega
    generalize hyk : b01 (ev g ins (ys.getD k 0)) = yk at v ⊢
    generalize valU ((evs g ins xs).take (n - k)) = xl at v hsplit
    generalize valU ((evs g ins xs).drop (n - k)) = xh at hsplit
    generalize valU ((evs g ins ys).take k) = yl at v ⊢
    generalize valU (evs g ins xs) = X at v hsplit ⊢
    generalize valU (evs (sumF r.g s.out r.out 0).g ins (sumF r.g s.out r.out 0).out) = O at v b0 b1 ⊢
    generalize b01 (ev (sumF r.g s.out r.out 0).g ins (sumF r.g s.out r.out 0).c) = C at v
    have hm := Int.mul_ediv_add_emod (X * yl) (2 ^ n)
    refine emod_of b0 b1 (c := C + (X * yl) / 2 ^ n + xh * yk) ?_
    have e3 : X * (yl + 2 ^ k * yk) = X * yl + 2 ^ k * (yk * xl) + 2 ^ n * (xh * yk) := by
      rw [Int.mul_add]
      have : X * (2 ^ k * yk) = 2 ^ k * (yk * xl) + 2 ^ n * (xh * yk) := by
        rw [hP, hsplit]
        generalize (2 : Int) ^ k = p
        generalize (2 : Int) ^ (n - k) = q
        rw [Int.add_mul]
        congr 1
        · rw [Int.mul_left_comm, Int.mul_comm xl yk]
        · rw [Int.mul_assoc q xh, Int.mul_left_comm xh p yk, Int.mul_left_comm q p, Int.mul_assoc]
      rw [this]; omega
    rw [e3, Int.mul_add, Int.mul_add]
    simp only [b01] at v
    simp at v
    omega
theorem mul_op (hw : GWf g) (hx : areLit g xs) (hy : areLit g ys) (hl : ins.length = g.inputs) (e1 : xs.length = n) (e2 : ys.length = n) (h1 : 1 ≤ n) (h8 : n ≤ 8) (hn : g.nodes + 800 ≤ 65536) :
    OpW 720 g (mulF g xs ys).g (mulF g xs ys).out n ∧ valU (evs (mulF g xs ys).g ins (mulF g xs ys).out) = (valU (evs g ins xs) * valU (evs g ins ys)) % 2 ^ n := by
  rw [show mulF g xs ys = mulK g xs ys xs.length from if_pos ⟨by omega, by omega, by omega⟩]
  obtain ⟨s1, s2, s3⟩ := mulK_spec hx hy (by omega) xs.length (Nat.le_refl _) (by omega)
  obtain ⟨k1, k2⟩ := mulK_sem hw hx hy hl e1 e2 h8 n (Nat.le_refl _) (by omega)
  rw [List.take_of_length_le (by rw [evs_length]; omega)] at k2
  rw [e1] at s1 s2 s3 ⊢
  exact ⟨⟨s1.mono (by omega), s2, k1, s3⟩, k2⟩

/-! ### Equal and Less -/
theorem eqK_sem (hw : GWf g) (hx : areLit g xs) (hy : areLit g ys) (hl : ins.length = g.inputs) (hxy : xs.length = ys.length) : ∀ k : Nat, k ≤ xs.length → g.nodes + 4 * k ≤ 65536 →
    Ext g (eqK g xs ys k).g ∧ ev (eqK g xs ys k).g ins (eqK g xs ys k).x = decide (valU ((evs g ins xs).take k) = valU ((evs g ins ys).take k))
  | 0, _, _ => ⟨Ext.refl _, by show ev g ins 1 = _; rw [ev_one]; simp⟩
  | k + 1, hk, hn => by
    obtain ⟨hE, ih⟩ := eqK_sem hw hx hy hl hxy k (by omega) (by omega)
    obtain ⟨h1, h2⟩ := eqK_spec hx hy k (by omega)
    have n1 := h1.nodes
    obtain ⟨s, hs⟩ : ∃ s, eqK g xs ys k = s := ⟨_, rfl⟩
    rw [hs] at hE ih h1 h2 n1
    rw [eqK, hs]
    have hlS := hl.trans hE.inputs.symm
    have o1 := xor_op (h1.wf hw) (h1.lit (hx.getD k)) (h1.lit (hy.getD k)) (by omega) hlS
    have m1 := o1.grew.nodes
    have o2 := and_op (o1.grew.wf (h1.wf hw)) (o1.grew.lit h2) o1.lit.notL (by omega) (o1.len hlS)
    refine ⟨(hE.trans o1.ext).trans o2.ext, o2.val.trans ?_⟩
    rw [ev_ext o1.ext hlS h2, ih, ev_notL _ _ o1.lit.1, o1.val, ev_ext hE hl (hx.getD k), ev_ext hE hl (hy.getD k), evs_take_succ (by omega), evs_take_succ (by omega)]
    have a1 := valU_nonneg ((evs g ins xs).take k)
    have a2 := valU_lt ((evs g ins xs).take k)
    have b1 := valU_nonneg ((evs g ins ys).take k)
    have b2 := valU_lt ((evs g ins ys).take k)
    rw [List.length_take, evs_length, Nat.min_eq_left (by omega)] at a2 b2
    generalize valU ((evs g ins xs).take k) = a at *
    generalize valU ((evs g ins ys).take k) = b at *
    generalize (2 : Int) ^ k = P at *
    rw [Bool.eq_iff_iff]
    cases ev g ins (xs.getD k 0) <;> cases ev g ins (ys.getD k 0) <;> simp [b01] <;> omega
theorem equal_op (hw : GWf g) (hx : areLit g xs) (hy : areLit g ys) (hl : ins.length = g.inputs) (e1 : xs.length = n) (e2 : ys.length = n) (h1 : 1 ≤ n) (h8 : n ≤ 8) (hn : g.nodes + 81 ≤ 65536) :
    Op1 36 g ((equalF g xs ys).g, (equalF g xs ys).x) ins (decide (valU (evs g ins xs) = valU (evs g ins ys))) := by
  obtain ⟨s1, s2⟩ := equalF_spec (g := g) (x := xs) (y := ys) ⟨by omega, by omega, by omega⟩ hx hy hn
  obtain ⟨k1, k2⟩ := eqK_sem hw hx hy hl (by omega) xs.length (Nat.le_refl _) (by omega)
  rw [List.take_of_length_le (by rw [evs_length]; exact Nat.le_refl _), List.take_of_length_le (by rw [evs_length]; omega)] at k2
  refine ⟨s1, s2, ?_, ?_⟩
  · rw [show equalF g xs ys = eqK g xs ys xs.length from if_pos ⟨by omega, by omega, by omega⟩]; exact k1
  · rw [show equalF g xs ys = eqK g xs ys xs.length from if_pos ⟨by omega, by omega, by omega⟩]; exact k2
theorem lessK_sem (hw : GWf g) (hx : areLit g xs) (hy : areLit g ys) (hl : ins.length = g.inputs) (hxy : xs.length = ys.length) : ∀ k : Nat, k < xs.length → g.nodes + 6 * k ≤ 65536 →
    Ext g (lessK g xs ys k).g ∧ ev (lessK g xs ys k).g ins (lessK g xs ys k).x = decide (valU ((evs g ins xs).take k) < valU ((evs g ins ys).take k))
  | 0, _, _ => ⟨Ext.refl _, by show ev g ins 0 = _; rw [ev_zero]; simp⟩
  | k + 1, hk, hn => by
    obtain ⟨hE, ih⟩ := lessK_sem hw hx hy hl hxy k (by omega) (by omega)
    obtain ⟨h1, h2⟩ := lessK_spec hx hy k (by omega)
    have n1 := h1.nodes
    obtain ⟨s, hs⟩ : ∃ s, lessK g xs ys k = s := ⟨_, rfl⟩
    rw [hs] at hE ih h1 h2 n1
    rw [lessK, hs, if_neg (by omega)]
    have hlS := hl.trans hE.inputs.symm
    have o1 := xor_op (h1.wf hw) (h1.lit (hx.getD k)) (h1.lit (hy.getD k)) (by omega) hlS
    have m1 := o1.grew.nodes
    have o2 := mux_op (o1.grew.wf (h1.wf hw)) o1.lit (o1.grew.lit (h1.lit (hy.getD k))) (o1.grew.lit h2) (by omega) (o1.len hlS)
    refine ⟨(hE.trans o1.ext).trans o2.ext, o2.val.trans ?_⟩
    rw [ev_ext o1.ext hlS h2, ih, o1.val, ev_ext o1.ext hlS (h1.lit (hy.getD k)), ev_ext hE hl (hx.getD k), ev_ext hE hl (hy.getD k), evs_take_succ (by omega), evs_take_succ (by omega)]
    have a1 := valU_nonneg ((evs g ins xs).take k)
    have a2 := valU_lt ((evs g ins xs).take k)
    have b1 := valU_nonneg ((evs g ins ys).take k)
    have b2 := valU_lt ((evs g ins ys).take k)
    rw [List.length_take, evs_length, Nat.min_eq_left (by omega)] at a2 b2
    generalize valU ((evs g ins xs).take k) = a at *
    generalize valU ((evs g ins ys).take k) = b at *
    generalize (2 : Int) ^ k = P at *
    rw [Bool.eq_iff_iff]
    cases ev g ins (xs.getD k 0) <;> cases ev g ins (ys.getD k 0) <;> simp [b01] <;> omega
/-- The integer that a word of bits stands for. -/
def valS (bs : List Bool) : Int := valU bs - (if bs.getLast? = some true then 2 ^ bs.length else 0)
theorem valS_snoc (l : List Bool) (b : Bool) : valS (l ++ [b]) = valU l - 2 ^ l.length * b01 b := by
  unfold valS
  rw [valU_snoc]
  cases b <;> simp [b01, Int.pow_succ] <;> omega
theorem evs_split {k : Nat} (hk : xs.length = k + 1) : evs g ins xs = (evs g ins xs).take k ++ [ev g ins (xs.getD k 0)] := by
  conv => lhs; rw [← List.take_of_length_le (l := evs g ins xs) (i := k + 1) (by rw [evs_length]; omega)]
  rw [List.take_add_one, evs_getD (by omega)]; rfl
theorem valueF_valS {bs : List Bool} (h1 : 1 ≤ bs.length) (h8 : bs.length ≤ 8) : valueF 0 bs = valS bs := by
  unfold valueF valS; rw [if_neg (by omega), if_pos ⟨rfl, h1, h8⟩]
theorem less_op (hw : GWf g) (hx : areLit g xs) (hy : areLit g ys) (hl : ins.length = g.inputs) (e1 : xs.length = n) (e2 : ys.length = n) (h1 : 1 ≤ n) (h8 : n ≤ 8) (hn : g.nodes + 81 ≤ 65536) :
    Op1 48 g ((lessF g xs ys).g, (lessF g xs ys).x) ins (decide (valS (evs g ins xs) < valS (evs g ins ys))) := by
  obtain ⟨k, rfl⟩ : ∃ k, n = k + 1 := ⟨n - 1, by omega⟩
  obtain ⟨s1, s2⟩ := lessK_spec hx hy (k + 1) (by omega)
  obtain ⟨hE, ih⟩ := lessK_sem hw hx hy hl (by omega) k (by omega) (by omega)
  obtain ⟨h1, h2⟩ := lessK_spec hx hy k (by omega)
  rw [show lessF g xs ys = lessK g xs ys (k + 1) from (if_pos ⟨by omega, by omega, by omega⟩).trans (by rw [e1])]
  have n1 := h1.nodes
  refine (fun (X : Ext g (lessK g xs ys (k + 1)).g ∧ ev (lessK g xs ys (k + 1)).g ins (lessK g xs ys (k + 1)).x = decide (valS (evs g ins xs) < valS (evs g ins ys))) => ⟨s1.mono (by omega), s2, X.1, X.2⟩) ?_
  obtain ⟨s, hs⟩ : ∃ s, lessK g xs ys k = s := ⟨_, rfl⟩
  rw [hs] at hE ih h1 h2 n1
  rw [lessK, hs, if_pos (by omega)]
  have hlS := hl.trans hE.inputs.symm
  have o1 := xor_op (h1.wf hw) (h1.lit (hx.getD k)) (h1.lit (hy.getD k)) (by omega) hlS
  have m1 := o1.grew.nodes
  have o2 := mux_op (o1.grew.wf (h1.wf hw)) o1.lit (o1.grew.lit (h1.lit (hx.getD k))) (o1.grew.lit h2) (by omega) (o1.len hlS)
  refine ⟨(hE.trans o1.ext).trans o2.ext, o2.val.trans ?_⟩
  rw [ev_ext o1.ext hlS h2, ih, o1.val, ev_ext o1.ext hlS (h1.lit (hx.getD k)), ev_ext hE hl (hx.getD k), ev_ext hE hl (hy.getD k), evs_split e1, evs_split e2, valS_snoc, valS_snoc]
  have a1 := valU_nonneg ((evs g ins xs).take k)
  have a2 := valU_lt ((evs g ins xs).take k)
  have b1 := valU_nonneg ((evs g ins ys).take k)
  have b2 := valU_lt ((evs g ins ys).take k)
  have tx : ((evs g ins xs).take k).length = k := by rw [List.length_take, evs_length]; omega
  have ty : ((evs g ins ys).take k).length = k := by rw [List.length_take, evs_length]; omega
  rw [tx] at a2 ⊢
  rw [ty] at b2 ⊢
  rw [List.take_left' tx, List.take_left' ty]
  generalize valU ((evs g ins xs).take k) = a at *
  generalize valU ((evs g ins ys).take k) = b at *
  generalize (2 : Int) ^ k = P at *
  rw [Bool.eq_iff_iff]
  cases ev g ins (xs.getD k 0) <;> cases ev g ins (ys.getD k 0) <;> simp [b01] <;> omega
end
end Go.Proofs.Ytgmcajojigedaaa
