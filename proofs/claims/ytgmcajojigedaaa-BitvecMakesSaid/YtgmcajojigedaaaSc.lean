/- What Divide computes, and the words of inputs: plain laws, no program. -/
import Derived.Test.YtgmcajojigedaaaSb
set_option linter.unusedSimpArgs false
set_option linter.unusedVariables false
namespace Go.Proofs.Ytgmcajojigedaaa

structure Gx (k : Nat) (g g' : GS) : Prop where
  grew : Grew k g g'
  ext : Ext g g'
theorem Gx.trans {a b : Nat} {g g' g'' : GS} (h : Gx a g g') (k : Gx b g' g'') : Gx (a + b) g g'' := ⟨h.grew.trans k.grew, h.ext.trans k.ext⟩
/-- A word of a circuit, and its bits. -/
structure Wd (g : GS) (ins : List Bool) (out : List Int) (n : Nat) (bs : List Bool) : Prop where
  lits : areLit g out
  len : out.length = n
  val : evs g ins out = bs
/-- A circuit that can be evaluated. -/
structure Sv (ins : List Bool) (g : GS) : Prop where
  wf : GWf g
  len : ins.length = g.inputs
section
variable {g g' : GS} {xs ys out : List Int} {ins : List Bool} {n k : Nat} {bs cs : List Bool} {c : Int} {b : Bool}
theorem Sv.gx (h : Sv ins g) (x : Gx k g g') : Sv ins g' := ⟨x.grew.wf h.wf, h.len.trans x.ext.inputs.symm⟩
theorem Wd.gx (h : Wd g ins out n bs) (x : Gx k g g') (s : Sv ins g) : Wd g' ins out n bs := ⟨x.grew.lits h.lits, h.len, (evs_ext x.ext s.len h.lits).trans h.val⟩
theorem Wd.blen (h : Wd g ins out n bs) : bs.length = n := by rw [← h.val, evs_length]; exact h.len
theorem Wd.bit (h : Wd g ins out n bs) {j : Nat} (hj : j < n) : ev g ins (out.getD j 0) = bs.getD j false := by
  have := evs_getD (g := g) (ins := ins) (xs := out) (k := j) (by rw [h.len]; exact hj)
  rw [h.val] at this
  rw [List.getD_eq_getElem?_getD (l := bs), this]; rfl
theorem wd_bits (g : GS) (ins : List Bool) (n : Nat) (m : Int) : Wd g ins (bitsI n m) n (bitsOf m n) := ⟨areLit.bits _ _, bitsI_length _ _, evs_bits _ _ _ _⟩
theorem wd_not (s : Sv ins g) (X : Wd g ins xs n bs) : Wd g ins (xs.map notL) n (bs.map (!·)) := ⟨X.lits.map_notL, by rw [List.length_map]; exact X.len, by rw [evs_notL X.lits, X.val]⟩
theorem sv_sum (s : Sv ins g) (X : Wd g ins xs n bs) (Y : Wd g ins ys n cs) (hc : isLit g c) (h9 : n ≤ 9) (hn : g.nodes + 81 ≤ 65536) :
    ∃ ds, Gx 81 g (sumF g xs ys c).g ∧ Wd (sumF g xs ys c).g ins (sumF g xs ys c).out n ds ∧ isLit (sumF g xs ys c).g (sumF g xs ys c).c ∧ valU ds + 2 ^ n * b01 (ev (sumF g xs ys c).g ins (sumF g xs ys c).c) = valU bs + valU cs + b01 (ev g ins c) := by
  obtain ⟨o, l, v⟩ := sum_op s.wf X.lits Y.lits hc s.len X.len Y.len h9 hn
  rw [X.val, Y.val] at v
  exact ⟨_, ⟨o.grew, o.ext⟩, ⟨o.lits, o.len, rfl⟩, l, v⟩
theorem sv_choose (s : Sv ins g) (X : Wd g ins xs n bs) (Y : Wd g ins ys n cs) (hc : isLit g c) (hb : ev g ins c = b) (h9 : n ≤ 9) (hn : g.nodes + 27 ≤ 65536) :
    Gx 27 g (chooseF g c xs ys).g ∧ Wd (chooseF g c xs ys).g ins (chooseF g c xs ys).out n (if b then bs else cs) := by
  obtain ⟨o, v⟩ := choose_op s.wf hc X.lits Y.lits s.len X.len Y.len h9 hn
  rw [X.val, Y.val, hb] at v
  exact ⟨⟨o.grew, o.ext⟩, ⟨o.lits, o.len, v⟩⟩
theorem sv_neg (s : Sv ins g) (X : Wd g ins xs n bs) (h1 : 1 ≤ n) (h8 : n ≤ 8) (hn : g.nodes + 81 ≤ 65536) :
    ∃ ds, Gx 81 g (negF g xs).g ∧ Wd (negF g xs).g ins (negF g xs).out n ds ∧ valU ds = (-valU bs) % 2 ^ n := by
  obtain ⟨o, v⟩ := neg_op s.wf X.lits s.len X.len h1 h8 hn
  rw [X.val] at v
  exact ⟨_, ⟨o.grew, o.ext⟩, ⟨o.lits, o.len, rfl⟩, v⟩
theorem sv_equal (s : Sv ins g) (X : Wd g ins xs n bs) (Y : Wd g ins ys n cs) (h1 : 1 ≤ n) (h8 : n ≤ 8) (hn : g.nodes + 81 ≤ 65536) :
    Gx 36 g (equalF g xs ys).g ∧ isLit (equalF g xs ys).g (equalF g xs ys).x ∧ ev (equalF g xs ys).g ins (equalF g xs ys).x = decide (valU bs = valU cs) := by
  have o := equal_op s.wf X.lits Y.lits s.len X.len Y.len h1 h8 hn
  have v := o.val
  rw [X.val, Y.val] at v
  exact ⟨⟨o.grew, o.ext⟩, o.lit, v⟩
theorem sv_xor {x y : Int} {a b : Bool} (s : Sv ins g) (hx : isLit g x) (hy : isLit g y) (ha : ev g ins x = a) (hb : ev g ins y = b) (hn : g.nodes + 2 < 65536) :
    Gx 3 g (xorF g x y).1 ∧ isLit (xorF g x y).1 (xorF g x y).2 ∧ ev (xorF g x y).1 ins (xorF g x y).2 = (a != b) := by
  have o := xor_op s.wf hx hy hn s.len
  have v := o.val
  rw [ha, hb] at v
  exact ⟨⟨o.grew, o.ext⟩, o.lit, v⟩

/-! ### The loop of the division -/
theorem divK_sem {ax wide : List Int} {av ds : List Bool} (s : Sv ins g) (X : Wd g ins ax n av) (Y : Wd g ins wide (n + 1) ds) (h8 : n ≤ 8) (hD : valU ds < 2 ^ n) : ∀ i, i ≤ n → g.nodes + 108 * i ≤ 65536 →
    ∃ qs rs, Gx (108 * i) g (divK g ax wide n i).g ∧ Wd (divK g ax wide n i).g ins (divK g ax wide n i).q n qs ∧ Wd (divK g ax wide n i).g ins (divK g ax wide n i).r (n + 1) rs ∧
      (0 < valU ds → ∃ Q : Int, 0 ≤ Q ∧ valU (av.drop (n - i)) = valU ds * Q + valU rs ∧ valU rs < valU ds ∧ valU qs = 2 ^ (n - i) * Q ∧ ∀ j, j < n - i → qs[j]? = some false)
  | 0, _, _ => by
    refine ⟨_, _, ⟨Grew.refl _ _, Ext.refl _⟩, wd_bits _ _ _ _, wd_bits _ _ _ _, fun h => ⟨0, Int.le_refl _, ?_, ?_, ?_, ?_⟩⟩
    · rw [List.drop_of_length_le (by rw [X.blen]; omega), valU_bitsOf]; simp [valU]
    · rw [valU_bitsOf]; simpa using h
    · rw [valU_bitsOf]; simp
    · intro j hj; rw [bitsOf, List.getElem?_map, List.getElem?_range (by omega)]; simp
  | i + 1, hi, hn => by
    obtain ⟨qs, rs, hG, hQ, hR, hv⟩ := divK_sem s X Y h8 hD i (by omega) (by omega)
    have n1 := hG.grew.nodes
    obtain ⟨st, hst⟩ : ∃ st, divK g ax wide n i = st := ⟨_, rfl⟩
    rw [hst] at hG hQ hR n1
    rw [divK, hst]
    obtain ⟨k, hk⟩ : ∃ k, n - 1 - i = k := ⟨_, rfl⟩
    have hkn : n - i = k + 1 := by omega
    rw [hk, show n - (i + 1) = k by omega]
    rw [hkn] at hv
    have hS := s.gx hG
    have hXS := X.gx hG s
    have hYS := Y.gx hG s
    have hrest : Wd st.g ins (ax.getD k 0 :: st.r.take n) (n + 1) (av.getD k false :: rs.take n) := by
      refine ⟨fun z hz => ?_, by simp [List.length_take, hR.len], ?_⟩
      · rcases List.mem_cons.1 hz with h | h
        · rw [h]; exact hXS.lits.getD k
        · exact hR.lits z (List.mem_of_mem_take h)
      · show evs st.g ins _ = _
        rw [← hXS.bit (by omega), ← hR.val]
        simp [evs, List.map_take]
    obtain ⟨us, uG, uW, uc, uv⟩ := sv_sum (c := 1) hS hrest (wd_not hS hYS) (lit_one _) (by omega) (by omega)
    have n2 := uG.grew.nodes
    unfold divStep
    dsimp only
    obtain ⟨u, hu⟩ : ∃ u, sumF st.g (ax.getD k 0 :: st.r.take n) (wide.map notL) 1 = u := ⟨_, rfl⟩
    rw [hu] at uG uW uc uv n2
    rw [hu]
    obtain ⟨cv, hcv⟩ : ∃ cv, ev u.g ins u.c = cv := ⟨_, rfl⟩
    obtain ⟨cG, cW⟩ := sv_choose (hS.gx uG) uW (hrest.gx uG hS) uc hcv (by omega) (by omega)
    have hQ' : Wd (chooseF u.g u.c u.out (ax.getD k 0 :: st.r.take n)).g ins (st.q.set k u.c) n (qs.set k cv) := by
      have hq := (hQ.gx uG hS).gx cG (hS.gx uG)
      refine ⟨hq.lits.set (cG.grew.lit uc), by rw [List.length_set]; exact hq.len, ?_⟩
      rw [evs, List.map_set]
      have e1 : List.map (ev (chooseF u.g u.c u.out (ax.getD k 0 :: st.r.take n)).g ins) st.q = qs := hq.val
      rw [e1, ev_ext cG.ext (hS.gx uG).len uc, hcv]
    refine ⟨_, _, (hG.trans (uG.trans cG)), hQ', cW, fun h => ?_⟩
    obtain ⟨Q, q0, v1, v2, v3, v4⟩ := hv h
    have hkq : qs[k]? = some false := v4 k (by omega)
    have hrl := hR.blen
    have hsplit : valU rs = valU (rs.take n) + 2 ^ n * valU (rs.drop n) := by
      conv => lhs; rw [← List.take_append_drop n rs]
      rw [valU_append, List.length_take, Nat.min_eq_left (by omega)]
    have hr0 := valU_nonneg (rs.take n)
    have hr1 := valU_nonneg (rs.drop n)
    have hP := pow_pos2 n
    have htop : valU (rs.drop n) = 0 := by
      rcases Int.lt_or_le 0 (valU (rs.drop n)) with h5 | h5
      · have : (2 : Int) ^ n * 1 ≤ 2 ^ n * valU (rs.drop n) := Int.mul_le_mul_of_nonneg_left (by omega) (by omega)
        omega
      · omega
    rw [htop, Int.mul_zero, Int.add_zero] at hsplit
    have hnl : (av.getD k false :: rs.take n).length = n + 1 := hrest.blen
    rw [valU_not, Y.blen, ev_one, hcv, valU, ← hsplit] at uv
    have ub0 := valU_nonneg us
    have ub1 := valU_lt us
    rw [uW.blen] at ub1
    have hdrop : valU (av.drop k) = b01 (av.getD k false) + 2 * valU (av.drop (k + 1)) := by
      have hlt : k < av.length := by rw [X.blen]; omega
      rw [List.drop_eq_getElem_cons hlt, valU, List.getD_eq_getElem?_getD, List.getElem?_eq_getElem hlt]; rfl
    have hd0 := valU_nonneg ds
    have hrs0 := valU_nonneg rs
    have hP1 : (2 : Int) ^ (n + 1) = 2 * 2 ^ n := by rw [Int.pow_succ, Int.mul_comm]
    rw [hP1] at uv ub1
    have hb := b01_cases (av.getD k false)
    have hcat : valU (av.getD k false :: rs.take n) = b01 (av.getD k false) + 2 * valU rs := by rw [valU, ← hsplit]
    refine ⟨2 * Q + b01 cv, by have := b01_cases cv; omega, ?_, ?_, ?_, ?_⟩
    · rw [hdrop, v1, Int.mul_add, Int.mul_add]
      have : valU ds * (2 * Q) = 2 * (valU ds * Q) := Int.mul_left_comm _ _ _
      rw [this]
      generalize valU ds * Q = E at *
      cases cv
      · rw [if_neg (by simp), hcat]
        rw [show b01 false = 0 from rfl, Int.mul_zero]
        generalize b01 (av.getD k false) = bb at *
        omega
      · rw [if_pos rfl]
        rw [show b01 true = 1 from rfl, Int.mul_one] at uv ⊢
        generalize b01 (av.getD k false) = bb at *
        omega
    · cases cv
      · rw [if_neg (by simp), hcat]
        rw [show b01 false = 0 from rfl, Int.mul_zero, show b01 true = 1 from rfl] at uv
        generalize b01 (av.getD k false) = bb at *
        omega
      · rw [if_pos rfl]
        rw [show b01 true = 1 from rfl, Int.mul_one] at uv
        generalize b01 (av.getD k false) = bb at *
        omega
    · rw [valU_set _ _ _ hkq, v3, Int.pow_succ, Int.mul_add, Int.mul_assoc]
    · intro j hj
      rw [List.getElem?_set_ne (by omega)]
      exact v4 j (by omega)

/-! ### Signs -/
theorem valS_mod (bs : List Bool) : valU bs = valS bs % 2 ^ bs.length := by
  have h0 := valU_nonneg bs
  have h1 := valU_lt bs
  unfold valS
  split
  · exact emod_of h0 h1 (c := -1) (by omega)
  · exact emod_of h0 h1 (c := 0) (by omega)
theorem split_last {k : Nat} (h : bs.length = k + 1) : bs = bs.take k ++ [bs.getD k false] := by
  conv => lhs; rw [← List.take_of_length_le (l := bs) (i := k + 1) (by omega)]
  rw [List.take_add_one, List.getElem?_eq_getElem (by omega), List.getD_eq_getElem?_getD, List.getElem?_eq_getElem (by omega)]; rfl
theorem valS_sign {k : Nat} (h : bs.length = k + 1) : bs.getD k false = decide (valS bs < 0) ∧ -(2 ^ k) ≤ valS bs ∧ valS bs < 2 ^ k ∧ (valU bs = 0 ↔ valS bs = 0) := by
  have e := split_last h
  obtain ⟨b, hb⟩ : ∃ b, bs.getD k false = b := ⟨_, rfl⟩
  rw [hb] at e ⊢
  have hl : (bs.take k).length = k := by rw [List.length_take]; omega
  have h0 := valU_nonneg (bs.take k)
  have h1 := valU_lt (bs.take k)
  rw [hl] at h1
  have e2 : valS bs = valU (bs.take k) - 2 ^ k * b01 b := by rw [e, valS_snoc, List.take_left' hl, hl]
  have e3 : valU bs = valU (bs.take k) + 2 ^ k * b01 b := by rw [e, valU_snoc, List.take_left' hl, hl]
  rw [e2, e3]
  generalize valU (bs.take k) = a at *
  generalize (2 : Int) ^ k = P at *
  cases b <;> simp [b01] <;> omega
theorem abs_val {k : Nat} (h : bs.length = k + 1) : (if decide (valS bs < 0) = true then (-valU bs) % 2 ^ (k + 1) else valU bs) = ((valS bs).natAbs : Int) ∧ ((valS bs).natAbs : Int) ≤ 2 ^ k := by
  obtain ⟨_, h2, h3, _⟩ := valS_sign h
  have hm := valS_mod bs
  have hP := pow_pos2 k
  have hu0 := valU_nonneg bs
  have hu1 := valU_lt bs
  rw [h] at hm hu1
  refine ⟨?_, by omega⟩
  rw [Int.pow_succ] at hm hu1 ⊢
  have e : valS bs = valU bs - 2 ^ k * 2 ∨ valS bs = valU bs := by
    unfold valS
    rw [h, Int.pow_succ]
    split
    · exact .inl rfl
    · exact .inr (by omega)
  clear hm
  rcases e with e | e <;> rw [e] at h2 h3 ⊢
  · rw [show decide (valU bs - 2 ^ k * 2 < 0) = true from decide_eq_true (by omega), if_pos rfl]
    refine (emod_of (a := ((valU bs - 2 ^ k * 2).natAbs : Int)) (c := -1) ?_ ?_ ?_).symm <;> omega
  · rw [show decide (valU bs < 0) = false from decide_eq_false (by omega)]
    simp only [Bool.false_eq_true, if_false]
    omega
theorem tdiv_of {a b Q R : Int} (h : (a.natAbs : Int) = b.natAbs * Q + R) (h0 : 0 ≤ R) (h1 : R < b.natAbs) :
    a.tdiv b = (if (decide (a < 0) != decide (b < 0)) = true then -Q else Q) ∧ a.tmod b = (if decide (a < 0) = true then -R else R) := by
  have hb : 0 < (b.natAbs : Int) := by omega
  obtain ⟨e1, e2⟩ := (Int.ediv_emod_unique (a := (a.natAbs : Int)) (q := Q) (r := R) hb).2 ⟨by omega, h0, h1⟩
  have d1 : (a.natAbs : Int).tdiv (b.natAbs : Int) = Q := by rw [Int.tdiv_eq_ediv_of_nonneg (by omega)]; exact e1
  have d2 : (a.natAbs : Int).tmod (b.natAbs : Int) = R := by rw [Int.tmod_eq_emod_of_nonneg (by omega)]; exact e2
  rcases Int.lt_or_le a 0 with ha | ha <;> rcases Int.lt_or_le b 0 with hb' | hb'
  · have ea : a = -(a.natAbs : Int) := by omega
    have eb : b = -(b.natAbs : Int) := by omega
    have da : decide (a < 0) = true := decide_eq_true ha
    have db : decide (b < 0) = true := decide_eq_true hb'
    rw [da, db]
    rw [ea, eb, Int.neg_tdiv, Int.tdiv_neg, Int.neg_tmod, Int.tmod_neg, d1, d2]
    simp
  · have ea : a = -(a.natAbs : Int) := by omega
    have eb : b = (b.natAbs : Int) := by omega
    have da : decide (a < 0) = true := decide_eq_true ha
    have db : decide (b < 0) = false := decide_eq_false (by omega)
    rw [da, db]
    rw [ea, eb, Int.neg_tdiv, Int.neg_tmod, d1, d2]
    simp
  · have ea : a = (a.natAbs : Int) := by omega
    have eb : b = -(b.natAbs : Int) := by omega
    have da : decide (a < 0) = false := decide_eq_false (by omega)
    have db : decide (b < 0) = true := decide_eq_true hb'
    rw [da, db]
    rw [ea, eb, Int.tdiv_neg, Int.tmod_neg, d1, d2]
    simp
  · have ea : a = (a.natAbs : Int) := by omega
    have eb : b = (b.natAbs : Int) := by omega
    have da : decide (a < 0) = false := decide_eq_false (by omega)
    have db : decide (b < 0) = false := decide_eq_false (by omega)
    rw [da, db]
    rw [ea, eb, d1, d2]
    simp

theorem valU_zero_bits (n : Nat) : valU (bitsOf 0 n) = 0 := by rw [valU_bitsOf]; simp
theorem wd_push (h : Wd g ins out n bs) : Wd g ins (out ++ [0]) (n + 1) (bs ++ [false]) := ⟨h.lits.push (lit_zero _), by rw [List.length_append, h.len]; rfl, by rw [evs_append, h.val]; congr 1; simp [evs, ev_zero]⟩
theorem wd_take {m : Nat} (h : Wd g ins out n bs) (hm : m ≤ n) : Wd g ins (out.take m) m (bs.take m) := ⟨fun z hz => h.lits z (List.mem_of_mem_take hz), by rw [List.length_take, h.len]; omega, by rw [← h.val]; simp [evs, List.map_take]⟩
theorem neg_mod_choose (b : Bool) {v P : Int} (h0 : 0 ≤ v) (h1 : v < P) {ds es : List Bool} (hd : valU ds = (-valU es) % P) (he : valU es = v) : valU (if b then ds else es) = (if b then -v else v) % P := by
  cases b
  · simp only [Bool.false_eq_true, if_false]; rw [he, Int.emod_eq_of_lt h0 h1]
  · simp only [if_true]; rw [hd, he]

theorem divide_sem (s : Sv ins g) (X : Wd g ins xs n bs) (Y : Wd g ins ys n cs) (h1 : 1 ≤ n) (h8 : n ≤ 8) (hn : g.nodes + 2000 ≤ 65536) :
    ∃ qs rs, Gx 1400 g (divideF g xs ys).g ∧ Wd (divideF g xs ys).g ins (divideF g xs ys).q n qs ∧ Wd (divideF g xs ys).g ins (divideF g xs ys).r n rs ∧
      valU qs = (if valS cs = 0 then 0 else (valS bs).tdiv (valS cs)) % 2 ^ n ∧ valU rs = (if valS cs = 0 then valS bs else (valS bs).tmod (valS cs)) % 2 ^ n := by
  obtain ⟨k, rfl⟩ : ∃ k, n = k + 1 := ⟨n - 1, by omega⟩
  have hxl := X.len
  have hyl := Y.len
  have hbl := X.blen
  have hcl := Y.blen
  obtain ⟨sgx, bx1, bx2, bx3⟩ := valS_sign hbl
  obtain ⟨sgy, by1, by2, by3⟩ := valS_sign hcl
  obtain ⟨ax1, ax2⟩ := abs_val hbl
  obtain ⟨ay1, ay2⟩ := abs_val hcl
  have hP : (2 : Int) ^ (k + 1) = 2 ^ k * 2 := Int.pow_succ _ _
  have hP0 := pow_pos2 k
  rw [show divideF g xs ys = divZ (divK (divA g xs ys).g (divA g xs ys).ax ((divA g xs ys).ay ++ [0]) xs.length xs.length) xs ys from if_pos ⟨by omega, by omega, by omega⟩]
  -- the magnitudes
  unfold divA divZ
  dsimp only
  rw [hxl, show k + 1 - 1 = k from rfl]
  have lsx : isLit g (xs.getD k 0) := X.lits.getD k
  have lsy : isLit g (ys.getD k 0) := Y.lits.getD k
  have vsx : ev g ins (xs.getD k 0) = decide (valS bs < 0) := (X.bit (by omega)).trans sgx
  have vsy : ev g ins (ys.getD k 0) = decide (valS cs < 0) := (Y.bit (by omega)).trans sgy
  obtain ⟨d1, G1, W1, v1⟩ := sv_neg s X (by omega) h8 (by omega)
  have m1 := G1.grew.nodes
  obtain ⟨n1, e1⟩ : ∃ n1, negF g xs = n1 := ⟨_, rfl⟩
  rw [e1] at G1 W1 m1 ⊢
  have s1 := s.gx G1
  obtain ⟨G2', W2⟩ := sv_choose s1 W1 (X.gx G1 s) (G1.grew.lit lsx) ((ev_ext G1.ext s.len lsx).trans vsx) (by omega) (by omega)
  obtain ⟨n2, e2⟩ : ∃ n2, chooseF n1.g (xs.getD k 0) n1.out xs = n2 := ⟨_, rfl⟩
  rw [e2] at G2' W2 ⊢
  have G2 := G1.trans G2'
  have m2 := G2.grew.nodes
  have s2 := s.gx G2
  obtain ⟨d3, G3', W3, v3⟩ := sv_neg s2 (Y.gx G2 s) (by omega) h8 (by omega)
  obtain ⟨n3, e3⟩ : ∃ n3, negF n2.g ys = n3 := ⟨_, rfl⟩
  rw [e3] at G3' W3 ⊢
  have G3 := G2.trans G3'
  have m3 := G3.grew.nodes
  have s3 := s.gx G3
  obtain ⟨G4', W4⟩ := sv_choose s3 W3 (Y.gx G3 s) (G3.grew.lit lsy) ((ev_ext G3.ext s.len lsy).trans vsy) (by omega) (by omega)
  obtain ⟨n4, e4⟩ : ∃ n4, chooseF n3.g (ys.getD k 0) n3.out ys = n4 := ⟨_, rfl⟩
  rw [e4] at G4' W4 ⊢
  have G4 := G3.trans G4'
  have m4 := G4.grew.nodes
  have s4 := s.gx G4
  have WA := (W2.gx G3' s2).gx G4' s3
  have vA : valU (if decide (valS bs < 0) = true then d1 else bs) = ((valS bs).natAbs : Int) := by
    rw [← ax1]; split
    · exact v1
    · rfl
  have vB : valU (if decide (valS cs < 0) = true then d3 else cs) = ((valS cs).natAbs : Int) := by
    rw [← ay1]; split
    · exact v3
    · rfl
  obtain ⟨av, has⟩ : ∃ av, (if decide (valS bs < 0) = true then d1 else bs) = av := ⟨_, rfl⟩
  obtain ⟨es, hes⟩ : ∃ es, (if decide (valS cs < 0) = true then d3 else cs) = es := ⟨_, rfl⟩
  rw [has] at WA vA
  rw [hes] at W4 vB
  have WW := wd_push W4
  have vW : valU (es ++ [false]) = ((valS cs).natAbs : Int) := by rw [valU_snoc, vB]; simp [b01]
  -- the loop
  obtain ⟨qs, rs, G5', WQ, WR, hv⟩ := divK_sem s4 WA WW h8 (by rw [vW]; omega) (k + 1) (Nat.le_refl _) (by omega)
  obtain ⟨st, e5⟩ : ∃ st, divK n4.g n2.out (n4.out ++ [0]) (k + 1) (k + 1) = st := ⟨_, rfl⟩
  rw [e5] at G5' WQ WR ⊢
  have G5 := G4.trans G5'
  have m5 := G5.grew.nodes
  have s5 := s.gx G5
  have WT := wd_take WR (m := k + 1) (by omega)
  -- the signs of the results
  obtain ⟨G6', lh, vh⟩ := sv_xor s5 (G5.grew.lit lsx) (G5.grew.lit lsy) ((ev_ext G5.ext s.len lsx).trans vsx) ((ev_ext G5.ext s.len lsy).trans vsy) (by omega)
  obtain ⟨h, e6⟩ : ∃ h, xorF st.g (xs.getD k 0) (ys.getD k 0) = h := ⟨_, rfl⟩
  rw [e6] at G6' lh vh ⊢
  have G6 := G5.trans G6'
  have m6 := G6.grew.nodes
  have s6 := s.gx G6
  obtain ⟨d7, G7', W7, v7⟩ := sv_neg s6 (WQ.gx G6' s5) (by omega) h8 (by omega)
  obtain ⟨n7, e7⟩ : ∃ n7, negF h.1 st.q = n7 := ⟨_, rfl⟩
  rw [e7] at G7' W7 ⊢
  have G7 := G6.trans G7'
  have m7 := G7.grew.nodes
  have s7 := s.gx G7
  obtain ⟨G8', W8⟩ := sv_choose s7 W7 ((WQ.gx G6' s5).gx G7' s6) (G7'.grew.lit lh) ((ev_ext G7'.ext s6.len lh).trans vh) (by omega) (by omega)
  obtain ⟨n8, e8⟩ : ∃ n8, chooseF n7.g h.2 n7.out st.q = n8 := ⟨_, rfl⟩
  rw [e8] at G8' W8 ⊢
  have G8 := G7.trans G8'
  have m8 := G8.grew.nodes
  have s8 := s.gx G8
  have WT8 := ((WT.gx G6' s5).gx G7' s6).gx G8' s7
  obtain ⟨d9, G9', W9, v9⟩ := sv_neg s8 WT8 (by omega) h8 (by omega)
  obtain ⟨n9, e9⟩ : ∃ n9, negF n8.g (st.r.take (k + 1)) = n9 := ⟨_, rfl⟩
  rw [e9] at G9' W9 ⊢
  have G9 := G8.trans G9'
  have m9 := G9.grew.nodes
  have s9 := s.gx G9
  obtain ⟨G10', W10⟩ := sv_choose s9 W9 (WT8.gx G9' s8) (G9.grew.lit lsx) ((ev_ext G9.ext s.len lsx).trans vsx) (by omega) (by omega)
  obtain ⟨n10, e10⟩ : ∃ n10, chooseF n9.g (xs.getD k 0) n9.out (st.r.take (k + 1)) = n10 := ⟨_, rfl⟩
  rw [e10] at G10' W10 ⊢
  have G10 := G9.trans G10'
  have m10 := G10.grew.nodes
  have s10 := s.gx G10
  obtain ⟨G11', lz, vz⟩ := sv_equal s10 (Y.gx G10 s) (wd_bits _ _ (k + 1) 0) (by omega) h8 (by omega)
  obtain ⟨z, e11⟩ : ∃ z, equalF n10.g ys (bitsI (k + 1) 0) = z := ⟨_, rfl⟩
  rw [e11] at G11' lz vz ⊢
  have G11 := G10.trans G11'
  have m11 := G11.grew.nodes
  have s11 := s.gx G11
  obtain ⟨G12', W12⟩ := sv_choose s11 (wd_bits _ _ (k + 1) 0) (((W8.gx G9' s8).gx G10' s9).gx G11' s10) lz vz (by omega) (by omega)
  obtain ⟨n12, e12⟩ : ∃ n12, chooseF z.g z.x (bitsI (k + 1) 0) n8.out = n12 := ⟨_, rfl⟩
  rw [e12] at G12' W12 ⊢
  have G12 := G11.trans G12'
  have m12 := G12.grew.nodes
  have s12 := s.gx G12
  obtain ⟨G13', W13⟩ := sv_choose s12 (X.gx G12 s) ((W10.gx G11' s10).gx G12' s11) (G12'.grew.lit lz) ((ev_ext G12'.ext s11.len lz).trans vz) (by omega) (by omega)
  obtain ⟨n13, e13⟩ : ∃ n13, chooseF n12.g z.x xs n10.out = n13 := ⟨_, rfl⟩
  rw [e13] at G13' W13 ⊢
  have G13 := G12.trans G13'
  refine ⟨_, _, ⟨G13.grew.mono (by omega), G13.ext⟩, W12.gx G13' s12, W13, ?_, ?_⟩
  · rw [valU_zero_bits]
    by_cases hy : valS cs = 0
    · rw [if_pos hy, if_pos (decide_eq_true (by3.2 hy)), valU_zero_bits, Int.zero_emod]
    · have hyu : ¬ valU cs = 0 := fun e => hy (by3.1 e)
      obtain ⟨Q, q0, f1, f2, f3, _⟩ := hv (by rw [vW]; exact Int.natCast_pos.2 (Int.natAbs_pos.2 hy))
      rw [Nat.sub_self, List.drop_zero, vA, vW] at f1
      rw [vW] at f2
      rw [Nat.sub_self, Int.pow_zero, Int.one_mul] at f3
      obtain ⟨t1, t2⟩ := tdiv_of (a := valS bs) (b := valS cs) f1 (valU_nonneg _) f2
      rw [if_neg hy, if_neg (by simpa using hyu), t1]
      refine neg_mod_choose _ q0 ?_ v7 f3
      have hq := valU_lt qs
      rw [WQ.blen] at hq
      omega
  · rw [valU_zero_bits]
    by_cases hy : valS cs = 0
    · rw [if_pos hy, if_pos (decide_eq_true (by3.2 hy))]
      have := valS_mod bs
      rwa [hbl] at this
    · have hyu : ¬ valU cs = 0 := fun e => hy (by3.1 e)
      obtain ⟨Q, q0, f1, f2, f3, _⟩ := hv (by rw [vW]; exact Int.natCast_pos.2 (Int.natAbs_pos.2 hy))
      rw [Nat.sub_self, List.drop_zero, vA, vW] at f1
      rw [vW] at f2
      obtain ⟨t1, t2⟩ := tdiv_of (a := valS bs) (b := valS cs) f1 (valU_nonneg _) f2
      rw [if_neg hy, if_neg (by simpa using hyu), t2]
      have hrl := WR.blen
      have hsplit : valU rs = valU (rs.take (k + 1)) + 2 ^ (k + 1) * valU (rs.drop (k + 1)) := by
        conv => lhs; rw [← List.take_append_drop (k + 1) rs]
        rw [valU_append, List.length_take, Nat.min_eq_left (by omega)]
      have hr0 := valU_nonneg (rs.take (k + 1))
      have hr1 := valU_nonneg (rs.drop (k + 1))
      have htop : valU (rs.drop (k + 1)) = 0 := by
        rcases Int.lt_or_le 0 (valU (rs.drop (k + 1))) with h5 | h5
        · have : (2 : Int) ^ (k + 1) * 1 ≤ 2 ^ (k + 1) * valU (rs.drop (k + 1)) := Int.mul_le_mul_of_nonneg_left (by omega) (by omega)
          omega
        · omega
      rw [htop, Int.mul_zero, Int.add_zero] at hsplit
      refine neg_mod_choose _ (valU_nonneg _) (by omega) v9 hsplit.symm

/-- A word of a width whose value is equal to m modulo 2^width stands for m, wrapped. -/
theorem valueF_wrap {a m : Int} (h1 : 2 ≤ a) (h2 : a ≤ 8) (hl : bs.length = a.toNat) (hv : valU bs = m % 2 ^ a.toNat) : valueF 0 bs = wrapW a m := by
  rw [valueF_valS (by omega) (by omega)]
  obtain ⟨k, hk⟩ : ∃ k, a.toNat = k + 1 := ⟨a.toNat - 1, by omega⟩
  obtain ⟨_, h3, h4, _⟩ := valS_sign (bs := bs) (k := k) (by omega)
  have hm := valS_mod bs
  rw [hl] at hm
  unfold wrapW
  rw [if_pos ⟨h1, h2⟩]
  rw [hv] at hm
  have hka : k = 1 ∨ k = 2 ∨ k = 3 ∨ k = 4 ∨ k = 5 ∨ k = 6 ∨ k = 7 := by omega
  rw [hk] at hm ⊢
  rcases hka with rfl | rfl | rfl | rfl | rfl | rfl | rfl <;> simp [Int.bmod] at * <;> omega

/-! ### The words of inputs -/
theorem ev_input {j : Nat} (hl : ins.length = g.inputs) (hj : j < g.inputs) : ev g ins (2 * ((j + 1 : Nat) : Int)) = ins.getD j false := by
  rw [← ev_at hl 0 (Nat.zero_le _) (by omega) (by omega)]
  unfold litV
  rw [show (2 * ((j + 1 : Nat) : Int) / 2).toNat = j + 1 by omega, show (2 * ((j + 1 : Nat) : Int)) % 2 = 0 by omega]
  simp [valsF]
end
end Go.Proofs.Ytgmcajojigedaaa
