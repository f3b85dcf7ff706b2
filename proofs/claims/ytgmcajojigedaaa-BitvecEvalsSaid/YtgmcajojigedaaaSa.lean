/- What the literals of a circuit mean: plain laws, no program. What the operators on words compute: plain laws, no program. What Divide computes, and the words of inputs: plain laws, no program. -/
import Derived.Test.YtgmcajojigedaaaDa
import Derived.Test.YtgmcajojigedaaaFc
set_option linter.unusedSimpArgs false
set_option linter.unusedVariables false
namespace Go.Proofs.Ytgmcajojigedaaa

/-- The value of a literal of a circuit for some inputs. -/
def ev (g : GS) (ins : List Bool) (x : Int) : Bool := litV (valuesF g ins) x
/-- g' has the gates of g, and perhaps more behind them. -/
structure Ext (g g' : GS) : Prop where
  inputs : g'.inputs = g.inputs
  pre : ∃ l, g'.gates = g.gates ++ l
theorem Ext.refl (g : GS) : Ext g g := ⟨rfl, [], by simp⟩
theorem Ext.trans {a b c : GS} (h : Ext a b) (k : Ext b c) : Ext a c := by
  obtain ⟨l, hl⟩ := h.pre
  obtain ⟨m, hm⟩ := k.pre
  exact ⟨k.inputs.trans h.inputs, l ++ m, by rw [hm, hl, List.append_assoc]⟩

theorem valsF_ext {g g' : GS} (h : Ext g g') (ins : List Bool) : ∀ k, k ≤ g.gates.length → valsF g' ins k = valsF g ins k
  | 0, _ => rfl
  | k + 1, hk => by
    obtain ⟨l, hl⟩ := h.pre
    have e : g'.gates[k]? = g.gates[k]? := by rw [hl, List.getElem?_append_left (by omega)]
    simp only [valsF, valsF_ext h ins k (by omega), e]
theorem valsF_more (g : GS) (ins : List Bool) (k : Nat) : ∀ j, ∃ l, valsF g ins (k + j) = valsF g ins k ++ l
  | 0 => ⟨[], by simp⟩
  | j + 1 => by
    obtain ⟨l, hl⟩ := valsF_more g ins k j
    exact ⟨_, by rw [show k + (j + 1) = (k + j) + 1 from rfl, valsF, hl, List.append_assoc]⟩
theorem litV_append (vs l : List Bool) {x : Int} (h0 : 0 ≤ x) (h1 : x < 2 * (vs.length : Int)) : litV (vs ++ l) x = litV vs x := by
  unfold litV
  have : (x / 2).toNat < vs.length := by omega
  rw [List.getD_eq_getElem?_getD, List.getD_eq_getElem?_getD, List.getElem?_append_left this]
theorem ev_at {g : GS} {ins : List Bool} {x : Int} (hl : ins.length = g.inputs) (k : Nat) (hk : k ≤ g.gates.length) (h0 : 0 ≤ x) (h1 : x < 2 * ((1 + g.inputs + k : Nat) : Int)) : litV (valsF g ins k) x = ev g ins x := by
  obtain ⟨l, e⟩ := valsF_more g ins k (g.gates.length - k)
  rw [show k + (g.gates.length - k) = g.gates.length by omega] at e
  unfold ev valuesF
  rw [e, litV_append _ _ h0 (by rw [valsF_length, hl]; exact h1)]
theorem ev_ext {g g' : GS} (h : Ext g g') {ins : List Bool} (hl : ins.length = g.inputs) {x : Int} (hx : isLit g x) : ev g' ins x = ev g ins x := by
  obtain ⟨l, hg⟩ := h.pre
  have hx1 := hx.2
  unfold GS.nodes at hx1
  rw [← ev_at (g := g') (by rw [h.inputs]; exact hl) g.gates.length (by rw [hg]; simp) hx.1 (by rw [h.inputs]; exact hx1), valsF_ext h ins _ (Nat.le_refl _)]
  rfl
theorem valsF_getD0 (g : GS) (ins : List Bool) (k : Nat) : (valsF g ins k).getD 0 false = false := by
  obtain ⟨l, e⟩ := valsF_more g ins 0 k
  rw [Nat.zero_add] at e
  rw [e]
  rfl
theorem ev_zero (g : GS) (ins : List Bool) : ev g ins 0 = false := by
  unfold ev litV valuesF
  have := valsF_getD0 g ins g.gates.length
  simp only [show ((0 : Int) / 2).toNat = 0 from rfl, this]
  rfl
theorem ev_one (g : GS) (ins : List Bool) : ev g ins 1 = true := by
  unfold ev litV valuesF
  have := valsF_getD0 g ins g.gates.length
  simp only [show ((1 : Int) / 2).toNat = 0 from rfl, this]
  rfl
theorem ev_notL (g : GS) (ins : List Bool) {x : Int} (h0 : 0 ≤ x) : ev g ins (notL x) = !ev g ins x := by
  unfold ev litV notL
  split
  · rename_i h
    rw [show ((x + 1) / 2).toNat = (x / 2).toNat by omega, show (x + 1) % 2 = 1 by omega, h]
    cases (valuesF g ins).getD (x / 2).toNat false <;> rfl
  · rename_i h
    rw [show ((x - 1) / 2).toNat = (x / 2).toNat by omega, show (x - 1) % 2 = 0 by omega, show x % 2 = 1 by omega]
    cases (valuesF g ins).getD (x / 2).toNat false <;> rfl
theorem ev_gate {g : GS} (hw : GWf g) {ins : List Bool} (hl : ins.length = g.inputs) {i : Nat} {p : Int × Int} (hi : g.gates[i]? = some p) :
    ev g ins (2 * ((1 + g.inputs + i : Nat) : Int)) = (ev g ins p.1 && ev g ins p.2) := by
  have hlt := (List.getElem?_eq_some_iff.1 hi).1
  obtain ⟨h1, h2, h3, _⟩ := hw.gate i p hi
  obtain ⟨x, y⟩ := p
  dsimp only at h1 h2 h3 ⊢
  rw [← ev_at hl (i + 1) (by omega) (by omega) (by omega), valsF_succ g ins i hi, ev_at hl i (by omega) (by omega) (by omega), ev_at hl i (by omega) (by omega) h3]
  unfold litV
  have e : (2 * ((1 + g.inputs + i : Nat) : Int) / 2).toNat = (valsF g ins i).length := by rw [valsF_length, hl]; omega
  rw [e, show (2 * ((1 + g.inputs + i : Nat) : Int)) % 2 = 0 by omega]
  rw [List.getD_eq_getElem?_getD]
  simp

theorem and_minmax (g : GS) (ins : List Bool) (x y : Int) : (ev g ins (min x y) && ev g ins (max x y)) = (ev g ins x && ev g ins y) := by
  rcases Int.le_total x y with h | h
  · rw [show min x y = x by omega, show max x y = y by omega]
  · rw [show min x y = y by omega, show max x y = x by omega, Bool.and_comm]
theorem andF_sem {g : GS} {x y : Int} (hw : GWf g) (hx : isLit g x) (hy : isLit g y) (hn : g.nodes < 65536) {ins : List Bool} (hl : ins.length = g.inputs) :
    Ext g (andF g x y).1 ∧ ev (andF g x y).1 ins (andF g x y).2 = (ev g ins x && ev g ins y) := by
  have hspec := andF_spec hx hy hn
  have hx0 := hx.1
  have hy0 := hy.1
  rw [← and_minmax]
  revert hspec
  unfold andF
  split
  · rename_i h
    intro _
    refine ⟨Ext.refl _, ?_⟩
    dsimp only
    rw [ev_zero]
    rcases h with h | h
    · rw [h, ev_zero]; rfl
    · rw [h, ev_notL _ _ (by omega)]; cases ev g ins (max x y) <;> rfl
  split
  · rename_i h
    intro _
    refine ⟨Ext.refl _, ?_⟩
    dsimp only
    rcases h with h | h
    · rw [h, ev_one]; rfl
    · rw [h, Bool.and_self]
  split
  · rename_i i hi
    intro _
    refine ⟨Ext.refl _, ?_⟩
    obtain ⟨hlt, he, _⟩ := List.findIdx?_eq_some_iff_getElem.1 hi
    have e : g.gates[i]? = some (min x y, max x y) := by
      rw [List.getElem?_eq_getElem hlt]
      simpa using he
    exact ev_gate hw hl e
  · intro hspec
    have hE : Ext g { g with gates := g.gates ++ [(min x y, max x y)] } := ⟨rfl, _, rfl⟩
    refine ⟨hE, ?_⟩
    have hw' := hspec.1.wf hw
    have hi : ({ g with gates := g.gates ++ [(min x y, max x y)] } : GS).gates[g.gates.length]? = some (min x y, max x y) := by simp
    have h := ev_gate hw' (ins := ins) hl hi
    have hx1 := hx.2
    have hy1 := hy.2
    have hmin : isLit g (min x y) := ⟨by omega, by omega⟩
    have hmax : isLit g (max x y) := ⟨by omega, by omega⟩
    dsimp only at h ⊢
    rw [ev_ext hE hl hmin, ev_ext hE hl hmax] at h
    exact h

/-- What an operation of the builder does: the circuit grows, and the result has a value. -/
structure Op1 (k : Nat) (g : GS) (r : GS × Int) (ins : List Bool) (b : Bool) : Prop where
  grew : Grew k g r.1
  lit : isLit r.1 r.2
  ext : Ext g r.1
  val : ev r.1 ins r.2 = b
theorem and_op {g : GS} {x y : Int} (hw : GWf g) (hx : isLit g x) (hy : isLit g y) (hn : g.nodes < 65536) {ins : List Bool} (hl : ins.length = g.inputs) : Op1 1 g (andF g x y) ins (ev g ins x && ev g ins y) :=
  ⟨(andF_spec hx hy hn).1, (andF_spec hx hy hn).2, (andF_sem hw hx hy hn hl).1, (andF_sem hw hx hy hn hl).2⟩
theorem or_op {g : GS} {x y : Int} (hw : GWf g) (hx : isLit g x) (hy : isLit g y) (hn : g.nodes < 65536) {ins : List Bool} (hl : ins.length = g.inputs) : Op1 1 g (orF g x y) ins (ev g ins x || ev g ins y) := by
  have h := and_op hw hx.notL hy.notL hn hl
  refine ⟨h.grew, h.lit.notL, h.ext, ?_⟩
  show ev (andF g (notL x) (notL y)).1 ins (notL (andF g (notL x) (notL y)).2) = _
  rw [ev_notL _ _ h.lit.1]
  have := h.val
  rw [ev_notL _ _ hx.1, ev_notL _ _ hy.1] at this
  rw [this]
  cases ev g ins x <;> cases ev g ins y <;> rfl
theorem Op1.len {k : Nat} {g : GS} {r : GS × Int} {ins : List Bool} {b : Bool} (h : Op1 k g r ins b) (hl : ins.length = g.inputs) : ins.length = r.1.inputs := hl.trans h.ext.inputs.symm
theorem xor_op {g : GS} {x y : Int} (hw : GWf g) (hx : isLit g x) (hy : isLit g y) (hn : g.nodes + 2 < 65536) {ins : List Bool} (hl : ins.length = g.inputs) : Op1 3 g (xorF g x y) ins (ev g ins x != ev g ins y) := by
  have h1 := and_op hw hx hy.notL (by omega) hl
  have n1 := h1.grew.nodes
  have h2 := and_op (h1.grew.wf hw) (h1.grew.lit hx.notL) (h1.grew.lit hy) (by omega) (h1.len hl)
  have n2 := h2.grew.nodes
  have h3 := or_op (h2.grew.wf (h1.grew.wf hw)) (h2.grew.lit h1.lit) h2.lit (by omega) (h2.len (h1.len hl))
  refine ⟨(h1.grew.trans h2.grew).trans h3.grew, h3.lit, (h1.ext.trans h2.ext).trans h3.ext, ?_⟩
  refine h3.val.trans ?_
  rw [ev_ext h2.ext (h1.len hl) h1.lit, h1.val, h2.val, ev_ext h1.ext hl hx.notL, ev_ext h1.ext hl hy, ev_notL _ _ hx.1, ev_notL _ _ hy.1]
  cases ev g ins x <;> cases ev g ins y <;> rfl
theorem mux_op {g : GS} {c x y : Int} (hw : GWf g) (hc : isLit g c) (hx : isLit g x) (hy : isLit g y) (hn : g.nodes + 2 < 65536) {ins : List Bool} (hl : ins.length = g.inputs) : Op1 3 g (muxF g c x y) ins (if ev g ins c then ev g ins x else ev g ins y) := by
  have h1 := and_op hw hc hx (by omega) hl
  have n1 := h1.grew.nodes
  have h2 := and_op (h1.grew.wf hw) (h1.grew.lit hc.notL) (h1.grew.lit hy) (by omega) (h1.len hl)
  have n2 := h2.grew.nodes
  have h3 := or_op (h2.grew.wf (h1.grew.wf hw)) (h2.grew.lit h1.lit) h2.lit (by omega) (h2.len (h1.len hl))
  refine ⟨(h1.grew.trans h2.grew).trans h3.grew, h3.lit, (h1.ext.trans h2.ext).trans h3.ext, ?_⟩
  refine h3.val.trans ?_
  rw [ev_ext h2.ext (h1.len hl) h1.lit, h1.val, h2.val, ev_ext h1.ext hl hc.notL, ev_ext h1.ext hl hy, ev_notL _ _ hc.1]
  cases ev g ins c <;> cases ev g ins x <;> cases ev g ins y <;> rfl

/-- The bits of a word. -/
def evs (g : GS) (ins : List Bool) (xs : List Int) : List Bool := xs.map (ev g ins)
theorem evs_length (g : GS) (ins : List Bool) (xs : List Int) : (evs g ins xs).length = xs.length := by simp [evs]
theorem evs_ext {g g' : GS} (h : Ext g g') {ins : List Bool} (hl : ins.length = g.inputs) {xs : List Int} (hx : areLit g xs) : evs g' ins xs = evs g ins xs :=
  List.map_congr_left fun x hm => ev_ext h hl (hx x hm)
theorem evs_append (g : GS) (ins : List Bool) (xs ys : List Int) : evs g ins (xs ++ ys) = evs g ins xs ++ evs g ins ys := by simp [evs]
theorem evs_getD {g : GS} {ins : List Bool} {xs : List Int} {k : Nat} (hk : k < xs.length) : (evs g ins xs)[k]? = some (ev g ins (xs.getD k 0)) := by
  have e : xs[k]? = some xs[k] := List.getElem?_eq_getElem hk
  rw [evs, List.getElem?_map, e, List.getD_eq_getElem?_getD, e]; rfl
theorem evs_notL {g : GS} {ins : List Bool} {xs : List Int} (hx : areLit g xs) : evs g ins (xs.map notL) = (evs g ins xs).map (!·) := by
  simp only [evs, List.map_map]
  exact List.map_congr_left fun x hm => ev_notL g ins (hx x hm).1
theorem evs_bits (g : GS) (ins : List Bool) (n : Nat) (m : Int) : evs g ins (bitsI n m) = bitsOf m n := by
  simp only [evs, bitsI, bitsOf, List.map_map]
  refine List.map_congr_left fun k _ => ?_
  have h : (m / 2 ^ k) % 2 = 0 ∨ (m / 2 ^ k) % 2 = 1 := by omega
  show ev g ins ((m / 2 ^ k) % 2) = _
  rcases h with h | h <;> rw [h]
  · exact ev_zero g ins
  · exact ev_one g ins

/-- What an operation on words does. -/
structure OpW (k : Nat) (g g' : GS) (out : List Int) (n : Nat) : Prop where
  grew : Grew k g g'
  lits : areLit g' out
  ext : Ext g g'
  len : out.length = n

theorem b01_not (b : Bool) : b01 (!b) = 1 - b01 b := by cases b <;> rfl
theorem valU_not : ∀ l : List Bool, valU (l.map (!·)) = 2 ^ l.length - 1 - valU l
  | [] => rfl
  | b :: l => by
    simp only [List.map_cons, valU, valU_not l, b01_not, List.length_cons, Int.pow_succ]
    omega

/-- Adding: the bits so far and the literal that is carried. -/
theorem sumK_sem {g : GS} {xs ys : List Int} {c : Int} (hw : GWf g) (hx : areLit g xs) (hy : areLit g ys) (hc : isLit g c) {ins : List Bool} (hl : ins.length = g.inputs) (hxy : xs.length ≤ ys.length) :
    ∀ k : Nat, k ≤ xs.length → g.nodes + 9 * k ≤ 65536 →
      Ext g (sumK g xs ys c k).g ∧ valU (evs (sumK g xs ys c k).g ins (sumK g xs ys c k).out) + 2 ^ k * b01 (ev (sumK g xs ys c k).g ins (sumK g xs ys c k).c) = valU ((evs g ins xs).take k) + valU ((evs g ins ys).take k) + b01 (ev g ins c)
  | 0, _, _ => ⟨Ext.refl _, by simp [sumK, evs, valU]⟩
  | k + 1, hk, hn => by
    obtain ⟨hE, ih⟩ := sumK_sem hw hx hy hc hl hxy k (by omega) (by omega)
    obtain ⟨h1, h2, h3⟩ := sumK_spec hx hy hc k (by omega)
    have n1 := h1.nodes
    have hlen := sumK_length g xs ys c k
    obtain ⟨s, hs⟩ : ∃ s, sumK g xs ys c k = s := ⟨_, rfl⟩
    rw [hs] at hE ih h1 h2 h3 n1 hlen
    rw [sumK, hs]
    have lx : isLit s.g (xs.getD k 0) := h1.lit (hx.getD k)
    have ly : isLit s.g (ys.getD k 0) := h1.lit (hy.getD k)
    have hwS := h1.wf hw
    have hlS : ins.length = s.g.inputs := hl.trans hE.inputs.symm
    have o1 := xor_op hwS lx ly (by omega) hlS
    have m1 := o1.grew.nodes
    have o2 := xor_op (o1.grew.wf hwS) o1.lit (o1.grew.lit h3) (by omega) (o1.len hlS)
    have m2 := o2.grew.nodes
    have o3 := and_op (o2.grew.wf (o1.grew.wf hwS)) (o2.grew.lit (o1.grew.lit lx)) (o2.grew.lit (o1.grew.lit ly)) (by omega) (o2.len (o1.len hlS))
    have m3 := o3.grew.nodes
    have o4 := and_op (o3.grew.wf (o2.grew.wf (o1.grew.wf hwS))) (o3.grew.lit (o2.grew.lit o1.lit)) (o3.grew.lit (o2.grew.lit (o1.grew.lit h3))) (by omega) (o3.len (o2.len (o1.len hlS)))
    have m4 := o4.grew.nodes
    have o5 := or_op (o4.grew.wf (o3.grew.wf (o2.grew.wf (o1.grew.wf hwS)))) (o4.grew.lit o3.lit) o4.lit (by omega) (o4.len (o3.len (o2.len (o1.len hlS))))
    have l1 := o1.len hlS
    have l2 := o2.len l1
    have l3 := o3.len l2
    have l4 := o4.len l3
    have e25 : Ext (xorF (xorF s.g (xs.getD k 0) (ys.getD k 0)).1 (xorF s.g (xs.getD k 0) (ys.getD k 0)).2 s.c).1 (sumStep s (xs.getD k 0) (ys.getD k 0)).g := (o3.ext.trans o4.ext).trans o5.ext
    have e05 : Ext s.g (sumStep s (xs.getD k 0) (ys.getD k 0)).g := (o1.ext.trans o2.ext).trans e25
    refine ⟨hE.trans e05, ?_⟩
    have vout : evs (sumStep s (xs.getD k 0) (ys.getD k 0)).g ins (sumStep s (xs.getD k 0) (ys.getD k 0)).out = evs s.g ins s.out ++ [(ev s.g ins (xs.getD k 0) != ev s.g ins (ys.getD k 0)) != ev s.g ins s.c] := by
      show evs _ ins (s.out ++ [_]) = _
      rw [evs_append, evs_ext e05 hlS h2]
      congr 1
      show [ev _ ins _] = _
      rw [ev_ext e25 l2 o2.lit, o2.val, o1.val, ev_ext o1.ext hlS h3]
    have vc : ev (sumStep s (xs.getD k 0) (ys.getD k 0)).g ins (sumStep s (xs.getD k 0) (ys.getD k 0)).c = ((ev s.g ins (xs.getD k 0) && ev s.g ins (ys.getD k 0)) || ((ev s.g ins (xs.getD k 0) != ev s.g ins (ys.getD k 0)) && ev s.g ins s.c)) := by
      refine o5.val.trans ?_
      rw [ev_ext o4.ext l3 o3.lit, o3.val, o4.val, ev_ext (o1.ext.trans o2.ext) hlS lx, ev_ext (o1.ext.trans o2.ext) hlS ly, ev_ext (o2.ext.trans o3.ext) l1 o1.lit, o1.val, ev_ext ((o1.ext.trans o2.ext).trans o3.ext) hlS h3]
    rw [vout, vc, valU_snoc, evs_length, hlen]
    have tx : (evs g ins xs).take (k + 1) = (evs g ins xs).take k ++ [ev g ins (xs.getD k 0)] := by rw [List.take_add_one, evs_getD (by omega)]; rfl
    have ty : (evs g ins ys).take (k + 1) = (evs g ins ys).take k ++ [ev g ins (ys.getD k 0)] := by rw [List.take_add_one, evs_getD (by omega)]; rfl
    have lx' : ((evs g ins xs).take k).length = k := by rw [List.length_take, evs_length]; omega
    have ly' : ((evs g ins ys).take k).length = k := by rw [List.length_take, evs_length]; omega
    rw [tx, ty, valU_snoc, valU_snoc, lx', ly', Int.pow_succ]
    rw [ev_ext hE hl (hx.getD k), ev_ext hE hl (hy.getD k)]
    generalize (2 : Int) ^ k = P at ih ⊢
    generalize hcv : ev s.g ins s.c = cv at ih ⊢
    generalize ev g ins (xs.getD k 0) = a
    generalize ev g ins (ys.getD k 0) = b
    cases a <;> cases b <;> cases cv <;> simp [b01] at ih ⊢ <;> omega
end Go.Proofs.Ytgmcajojigedaaa
namespace Go.Proofs.Ytgmcajojigedaaa

theorem emod_of {a b P c : Int} (h0 : 0 ≤ a) (h1 : a < P) (h : b = a + P * c) : a = b % P := by
  rw [h, Int.add_mul_emod_self_left, Int.emod_eq_of_lt h0 h1]
theorem valU_append (a : List Bool) : ∀ b : List Bool, valU (a ++ b) = valU a + 2 ^ a.length * valU b := by
  induction a with
  | nil => intro b; simp [valU]
  | cons x r ih => intro b; rw [List.cons_append, valU, valU, ih, List.length_cons, Int.pow_succ, Int.mul_add, ← Int.mul_assoc, Int.mul_comm 2 (2 ^ r.length)]; omega
theorem valU_set : ∀ (l : List Bool) (j : Nat) (b : Bool), l[j]? = some false → valU (l.set j b) = valU l + 2 ^ j * b01 b
  | [], j, b, h => by simp at h
  | x :: l, 0, b, h => by simp at h; subst h; simp [valU, b01]; omega
  | x :: l, j + 1, b, h => by
    rw [List.set_cons_succ, valU, valU, valU_set l j b (by simpa using h), Int.pow_succ, Int.mul_add, ← Int.mul_assoc, Int.mul_comm 2 (2 ^ j)]; omega
theorem pow_pos2 (n : Nat) : (0 : Int) < 2 ^ n := Int.pow_pos (by omega)

section
variable {g : GS} {xs ys : List Int} {ins : List Bool} {n : Nat}
theorem sum_op {c : Int} (hw : GWf g) (hx : areLit g xs) (hy : areLit g ys) (hc : isLit g c) (hl : ins.length = g.inputs) (e1 : xs.length = n) (e2 : ys.length = n) (h9 : n ≤ 9) (hn : g.nodes + 81 ≤ 65536) :
    OpW 81 g (sumF g xs ys c).g (sumF g xs ys c).out n ∧ isLit (sumF g xs ys c).g (sumF g xs ys c).c ∧
    valU (evs (sumF g xs ys c).g ins (sumF g xs ys c).out) + 2 ^ n * b01 (ev (sumF g xs ys c).g ins (sumF g xs ys c).c) = valU (evs g ins xs) + valU (evs g ins ys) + b01 (ev g ins c) := by
  obtain ⟨s1, s2, s3, s4⟩ := sumF_spec hx hy hc (by omega) hn
  obtain ⟨k1, k2⟩ := sumK_sem hw hx hy hc hl (by omega) xs.length (Nat.le_refl _) (by omega)
  rw [List.take_of_length_le (by rw [evs_length]; exact Nat.le_refl _), List.take_of_length_le (by rw [evs_length]; omega)] at k2
  subst e1
  exact ⟨⟨s1, s2, k1, s4⟩, s3, k2⟩
theorem chooseK_sem {c : Int} (hw : GWf g) (hc : isLit g c) (hx : areLit g xs) (hy : areLit g ys) (hl : ins.length = g.inputs) (hxy : xs.length ≤ ys.length) : ∀ k, k ≤ xs.length → g.nodes + 3 * k ≤ 65536 →
    Ext g (chooseK g c xs ys k).g ∧ evs (chooseK g c xs ys k).g ins (chooseK g c xs ys k).out = (if ev g ins c then evs g ins xs else evs g ins ys).take k
  | 0, _, _ => ⟨Ext.refl _, by simp [chooseK, evs]⟩
  | k + 1, hk, hn => by
    obtain ⟨hE, ih⟩ := chooseK_sem hw hc hx hy hl hxy k (by omega) (by omega)
    obtain ⟨h1, h2⟩ := chooseK_spec hx hy hc k (by omega)
    have n1 := h1.nodes
    obtain ⟨s, hs⟩ : ∃ s, chooseK g c xs ys k = s := ⟨_, rfl⟩
    rw [hs] at hE ih h1 h2 n1
    rw [chooseK, hs]
    have hlS := hl.trans hE.inputs.symm
    have o := mux_op (h1.wf hw) (h1.lit hc) (h1.lit (hx.getD k)) (h1.lit (hy.getD k)) (by omega) hlS
    refine ⟨hE.trans o.ext, ?_⟩
    show evs (muxF s.g c (xs.getD k 0) (ys.getD k 0)).1 ins (s.out ++ [(muxF s.g c (xs.getD k 0) (ys.getD k 0)).2]) = _
    rw [evs_append, evs_ext o.ext hlS h2, ih]
    show _ ++ [ev (muxF s.g c (xs.getD k 0) (ys.getD k 0)).1 ins (muxF s.g c (xs.getD k 0) (ys.getD k 0)).2] = _
    rw [o.val, ev_ext hE hl hc, ev_ext hE hl (hx.getD k), ev_ext hE hl (hy.getD k), List.take_add_one]
    congr 1
    split
    · rw [evs_getD (by omega)]; rfl
    · rw [evs_getD (by omega)]; rfl
theorem choose_op {c : Int} (hw : GWf g) (hc : isLit g c) (hx : areLit g xs) (hy : areLit g ys) (hl : ins.length = g.inputs) (e1 : xs.length = n) (e2 : ys.length = n) (h9 : n ≤ 9) (hn : g.nodes + 27 ≤ 65536) :
    OpW 27 g (chooseF g c xs ys).g (chooseF g c xs ys).out n ∧ evs (chooseF g c xs ys).g ins (chooseF g c xs ys).out = if ev g ins c then evs g ins xs else evs g ins ys := by
  obtain ⟨s1, s2, s3⟩ := chooseF_spec hc hx hy (by omega) hn
  obtain ⟨k1, k2⟩ := chooseK_sem hw hc hx hy hl (by omega) xs.length (Nat.le_refl _) (by omega)
  refine ⟨⟨s1, s2, k1, s3.trans e1⟩, k2.trans (List.take_of_length_le ?_)⟩
  split <;> rw [evs_length] <;> omega
theorem neg_op (hw : GWf g) (hx : areLit g xs) (hl : ins.length = g.inputs) (e1 : xs.length = n) (h1 : 1 ≤ n) (h8 : n ≤ 8) (hn : g.nodes + 81 ≤ 65536) :
    OpW 81 g (negF g xs).g (negF g xs).out n ∧ valU (evs (negF g xs).g ins (negF g xs).out) = (-valU (evs g ins xs)) % 2 ^ n := by
  subst e1
  rw [show negF g xs = ⟨(sumF g (bitsI xs.length 0) (xs.map notL) 1).g, (sumF g (bitsI xs.length 0) (xs.map notL) 1).out⟩ from if_pos ⟨by omega, by omega⟩]
  obtain ⟨o, _, v⟩ := sum_op (n := xs.length) (xs := bitsI xs.length 0) (ys := xs.map notL) (c := 1) hw (areLit.bits _ _) hx.map_notL (lit_one g) hl (bitsI_length _ _) (List.length_map _) (by omega) hn
  refine ⟨o, ?_⟩
  rw [evs_bits, valU_bitsOf, evs_notL hx, valU_not, ev_one, evs_length] at v
  have hL : (evs (sumF g (bitsI xs.length 0) (xs.map notL) 1).g ins (sumF g (bitsI xs.length 0) (xs.map notL) 1).out).length = xs.length := by rw [evs_length]; exact o.len
  have b0 := valU_nonneg (evs (sumF g (bitsI xs.length 0) (xs.map notL) 1).g ins (sumF g (bitsI xs.length 0) (xs.map notL) 1).out)
  have b1 := valU_lt (evs (sumF g (bitsI xs.length 0) (xs.map notL) 1).g ins (sumF g (bitsI xs.length 0) (xs.map notL) 1).out)
  rw [hL] at b1
  refine emod_of b0 b1 (c := b01 (ev (sumF g (bitsI xs.length 0) (xs.map notL) 1).g ins (sumF g (bitsI xs.length 0) (xs.map notL) 1).c) - 1) ?_
  rw [Int.mul_sub, Int.mul_one]
  simp only [Int.zero_emod] at v
  simp only [b01] at v ⊢
  simp at v
  omega
theorem add_op (hw : GWf g) (hx : areLit g xs) (hy : areLit g ys) (hl : ins.length = g.inputs) (e1 : xs.length = n) (e2 : ys.length = n) (h1 : 1 ≤ n) (h8 : n ≤ 8) (hn : g.nodes + 81 ≤ 65536) :
    OpW 81 g (addF g xs ys).g (addF g xs ys).out n ∧ valU (evs (addF g xs ys).g ins (addF g xs ys).out) = (valU (evs g ins xs) + valU (evs g ins ys)) % 2 ^ n := by
  rw [show addF g xs ys = ⟨(sumF g xs ys 0).g, (sumF g xs ys 0).out⟩ from if_pos ⟨by omega, by omega, by omega⟩]
  obtain ⟨o, _, v⟩ := sum_op (n := n) (xs := xs) (ys := ys) (c := 0) hw hx hy (lit_zero g) hl e1 e2 (by omega) hn
  refine ⟨o, ?_⟩
  have hL : (evs (sumF g xs ys 0).g ins (sumF g xs ys 0).out).length = n := by rw [evs_length]; exact o.len
  have b0 := valU_nonneg (evs (sumF g xs ys 0).g ins (sumF g xs ys 0).out)
  have b1 := valU_lt (evs (sumF g xs ys 0).g ins (sumF g xs ys 0).out)
  rw [hL] at b1
  refine emod_of b0 b1 (c := b01 (ev (sumF g xs ys 0).g ins (sumF g xs ys 0).c)) ?_
  rw [ev_zero] at v
  simp only [b01] at v ⊢
  simp at v
  omega
theorem sub_op (hw : GWf g) (hx : areLit g xs) (hy : areLit g ys) (hl : ins.length = g.inputs) (e1 : xs.length = n) (e2 : ys.length = n) (h1 : 1 ≤ n) (h8 : n ≤ 8) (hn : g.nodes + 81 ≤ 65536) :
    OpW 81 g (subF g xs ys).g (subF g xs ys).out n ∧ valU (evs (subF g xs ys).g ins (subF g xs ys).out) = (valU (evs g ins xs) - valU (evs g ins ys)) % 2 ^ n := by
  rw [show subF g xs ys = ⟨(sumF g xs (ys.map notL) 1).g, (sumF g xs (ys.map notL) 1).out⟩ from if_pos ⟨by omega, by omega, by omega⟩]
  obtain ⟨o, _, v⟩ := sum_op (n := n) (xs := xs) (ys := ys.map notL) (c := 1) hw hx hy.map_notL (lit_one g) hl e1 (by rw [List.length_map]; exact e2) (by omega) hn
  refine ⟨o, ?_⟩
  have hL : (evs (sumF g xs (ys.map notL) 1).g ins (sumF g xs (ys.map notL) 1).out).length = n := by rw [evs_length]; exact o.len
  have b0 := valU_nonneg (evs (sumF g xs (ys.map notL) 1).g ins (sumF g xs (ys.map notL) 1).out)
  have b1 := valU_lt (evs (sumF g xs (ys.map notL) 1).g ins (sumF g xs (ys.map notL) 1).out)
  rw [hL] at b1
  rw [evs_notL hy, valU_not, ev_one, evs_length, e2] at v
  refine emod_of b0 b1 (c := b01 (ev (sumF g xs (ys.map notL) 1).g ins (sumF g xs (ys.map notL) 1).c) - 1) ?_
  rw [Int.mul_sub, Int.mul_one]
  simp only [b01] at v ⊢
  simp at v
  omega
theorem evs_take_succ {k : Nat} (hk : k < xs.length) : valU ((evs g ins xs).take (k + 1)) = valU ((evs g ins xs).take k) + 2 ^ k * b01 (ev g ins (xs.getD k 0)) := by
  rw [List.take_add_one, evs_getD hk, Option.toList_some, valU_snoc, List.length_take, evs_length, Nat.min_eq_left (by omega)]
theorem evs_drop {k : Nat} (hk : k < xs.length) : valU ((evs g ins xs).drop k) = b01 (ev g ins (xs.getD k 0)) + 2 * valU ((evs g ins xs).drop (k + 1)) := by
  have h : k < (evs g ins xs).length := by rw [evs_length]; exact hk
  rw [List.drop_eq_getElem_cons h, valU]
  have e : (evs g ins xs)[k] = ev g ins (xs.getD k 0) := by
    have := evs_getD (g := g) (ins := ins) hk
    rw [List.getElem?_eq_getElem h] at this
    exact Option.some.inj this
  rw [e]

/-! ### Mul -/
theorem rowT_sem {k : Nat} (hw : GWf g) (hx : areLit g xs) (hy : areLit g ys) (hl : ins.length = g.inputs) (e1 : xs.length = n) : ∀ t : Nat, k + t ≤ n → g.nodes + t ≤ 65536 →
    Ext g (rowT g xs ys n k t).g ∧ valU (evs (rowT g xs ys n k t).g ins (rowT g xs ys n k t).out) = 2 ^ k * (b01 (ev g ins (ys.getD k 0)) * valU ((evs g ins xs).take t)) ∧
    ∀ j, k + t ≤ j → j < n → (evs (rowT g xs ys n k t).g ins (rowT g xs ys n k t).out)[j]? = some false
  | 0, _, _ => by
    refine ⟨Ext.refl _, ?_, fun j _ hj => ?_⟩
    · show valU (evs g ins (bitsI n 0)) = _
      rw [evs_bits, valU_bitsOf]; simp [valU]
    · show (evs g ins (bitsI n 0))[j]? = _
      rw [evs_bits]; simp [bitsOf, hj]
  | t + 1, hk, hn => by
    obtain ⟨hE, ih, hz⟩ := rowT_sem (k := k) hw hx hy hl e1 t (by omega) (by omega)
    obtain ⟨h1, h2, h3⟩ := rowT_spec (g := g) (xs := xs) (ys := ys) n k hx hy t (by omega)
    have n1 := h1.nodes
    obtain ⟨s, hs⟩ : ∃ s, rowT g xs ys n k t = s := ⟨_, rfl⟩
    rw [hs] at hE ih hz h1 h2 h3 n1
    rw [rowT, hs]
    have hlS := hl.trans hE.inputs.symm
    have o := and_op (h1.wf hw) (h1.lit (hx.getD t)) (h1.lit (hy.getD k)) (by omega) hlS
    have es : evs (andF s.g (xs.getD t 0) (ys.getD k 0)).1 ins (s.out.set (k + t) (andF s.g (xs.getD t 0) (ys.getD k 0)).2) = (evs s.g ins s.out).set (k + t) (ev g ins (xs.getD t 0) && ev g ins (ys.getD k 0)) := by
      rw [← evs_ext o.ext hlS h2, ← ev_ext hE hl (hx.getD t), ← ev_ext hE hl (hy.getD k), ← o.val]
      simp [evs, List.map_set]
    refine ⟨hE.trans o.ext, ?_, fun j hj hj2 => ?_⟩
    · show valU (evs _ ins _) = _
      dsimp only
      rw [es, valU_set _ _ _ (hz _ (Nat.le_refl _) (by omega)), ih, evs_take_succ (by omega), Int.pow_add]
      cases ev g ins (xs.getD t 0) <;> cases ev g ins (ys.getD k 0) <;> simp [b01, Int.mul_add]
    · show (evs _ ins _)[j]? = _
      dsimp only
      rw [es, List.getElem?_set_ne (by omega)]
      exact hz j (by omega) hj2
theorem mulK_sem (hw : GWf g) (hx : areLit g xs) (hy : areLit g ys) (hl : ins.length = g.inputs) (e1 : xs.length = n) (e2 : ys.length = n) (h8 : n ≤ 8) : ∀ k : Nat, k ≤ n → g.nodes + 90 * k ≤ 65536 →
    Ext g (mulK g xs ys k).g ∧ valU (evs (mulK g xs ys k).g ins (mulK g xs ys k).out) = (valU (evs g ins xs) * valU ((evs g ins ys).take k)) % 2 ^ n
  | 0, _, _ => by
    refine ⟨Ext.refl _, ?_⟩
    show valU (evs g ins (bitsI xs.length 0)) = _
    rw [evs_bits, valU_bitsOf]; simp [valU]
  | k + 1, hk, hn => by
    obtain ⟨hE, ih⟩ := mulK_sem hw hx hy hl e1 e2 h8 k (by omega) (by omega)
    obtain ⟨h1, h2, h3⟩ := mulK_spec hx hy (by omega) k (by omega) (by omega)
    have n1 := h1.nodes
    obtain ⟨s, hs⟩ : ∃ s, mulK g xs ys k = s := ⟨_, rfl⟩
    rw [hs] at hE ih h1 h2 h3 n1
    rw [mulK, hs]
    have hlS := hl.trans hE.inputs.symm
    obtain ⟨rE, rv, _⟩ := rowT_sem (k := k) (h1.wf hw) (h1.lits hx) (h1.lits hy) hlS e1 (n - k) (by omega) (by omega)
    obtain ⟨r1, r2, r3⟩ := rowT_spec (g := s.g) (xs := xs) (ys := ys) n k (h1.lits hx) (h1.lits hy) (n - k) (by omega)
    have n2 := r1.nodes
    rw [e1]
    obtain ⟨r, hr⟩ : ∃ r, rowT s.g xs ys n k (n - k) = r := ⟨_, rfl⟩
    rw [hr] at rE rv r1 r2 r3 n2
    rw [hr]
    obtain ⟨o, _, v⟩ := sum_op (n := n) (xs := s.out) (ys := r.out) (c := 0) (ins := ins) (r1.wf (h1.wf hw)) (r1.lits h2) r2 (lit_zero _) (hlS.trans rE.inputs.symm) (h3.trans e1) r3 (by omega) (by omega)
    refine ⟨(hE.trans rE).trans o.ext, ?_⟩
    dsimp only
    have hL : (evs (sumF r.g s.out r.out 0).g ins (sumF r.g s.out r.out 0).out).length = n := by rw [evs_length]; exact o.len
    have b0 := valU_nonneg (evs (sumF r.g s.out r.out 0).g ins (sumF r.g s.out r.out 0).out)
    have b1 := valU_lt (evs (sumF r.g s.out r.out 0).g ins (sumF r.g s.out r.out 0).out)
    rw [hL] at b1
    rw [evs_ext rE hlS h2, ih, rv, ev_zero, ev_ext hE hl (hy.getD k), evs_ext hE hl hx] at v
    have hsplit : valU (evs g ins xs) = valU ((evs g ins xs).take (n - k)) + 2 ^ (n - k) * valU ((evs g ins xs).drop (n - k)) := by
      conv => lhs; rw [← List.take_append_drop (n - k) (evs g ins xs)]
      rw [valU_append, List.length_take, evs_length, Nat.min_eq_left (by omega)]
    rw [evs_take_succ (by omega)]
    have hP : (2 : Int) ^ n = 2 ^ k * 2 ^ (n - k) := by rw [← Int.pow_add]; congr 1; omega
    generalize hyk : b01 (ev g ins (ys.getD k 0)) = yk at v ⊢
    generalize valU ((evs g ins xs).take (n - k)) = xl at v hsplit
    generalize valU ((evs g ins xs).drop (n - k)) = xh at hsplit
    generalize valU ((evs g ins ys).take k) = yl at v ⊢
    generalize valU (evs g ins xs) = X at v hsplit ⊢
    generalize valU (evs (sumF r.g s.out r.out 0).g ins (sumF r.g s.out r.out 0).out) = O at v b0 b1 ⊢
    generalize b01 (ev (sumF r.g s.out r.out 0).g ins (sumF r.g s.out r.out 0).c) = C at v
    have hm := Int.mul_ediv_add_emod (X * yl) (2 ^ n)
    refine emod_of b0 b1 (c := C + (X * yl) / 2 ^ n + xh * yk) ?_
    have e3 : X * (yl + 2 ^ k * yk) = X * yl + 2 ^ k * (yk * xl) + 2 ^ n * (xh * yk) := by
      rw [Int.mul_add]
      have : X * (2 ^ k * yk) = 2 ^ k * (yk * xl) + 2 ^ n * (xh * yk) := by
        rw [hP, hsplit]
        generalize (2 : Int) ^ k = p
        generalize (2 : Int) ^ (n - k) = q
        rw [Int.add_mul]
        congr 1
        · rw [Int.mul_left_comm, Int.mul_comm xl yk]
        · rw [Int.mul_assoc q xh, Int.mul_left_comm xh p yk, Int.mul_left_comm q p, Int.mul_assoc]
      rw [this]; omega
    rw [e3, Int.mul_add, Int.mul_add]
    simp only [b01] at v
    simp at v
    omega
theorem mul_op (hw : GWf g) (hx : areLit g xs) (hy : areLit g ys) (hl : ins.length = g.inputs) (e1 : xs.length = n) (e2 : ys.length = n) (h1 : 1 ≤ n) (h8 : n ≤ 8) (hn : g.nodes + 800 ≤ 65536) :
    OpW 720 g (mulF g xs ys).g (mulF g xs ys).out n ∧ valU (evs (mulF g xs ys).g ins (mulF g xs ys).out) = (valU (evs g ins xs) * valU (evs g ins ys)) % 2 ^ n := by
  rw [show mulF g xs ys = mulK g xs ys xs.length from if_pos ⟨by omega, by omega, by omega⟩]
  obtain ⟨s1, s2, s3⟩ := mulK_spec hx hy (by omega) xs.length (Nat.le_refl _) (by omega)
  obtain ⟨k1, k2⟩ := mulK_sem hw hx hy hl e1 e2 h8 n (Nat.le_refl _) (by omega)
  rw [List.take_of_length_le (by rw [evs_length]; omega)] at k2
  rw [e1] at s1 s2 s3 ⊢
  exact ⟨⟨s1.mono (by omega), s2, k1, s3⟩, k2⟩

/-! ### Equal and Less -/
theorem eqK_sem (hw : GWf g) (hx : areLit g xs) (hy : areLit g ys) (hl : ins.length = g.inputs) (hxy : xs.length = ys.length) : ∀ k : Nat, k ≤ xs.length → g.nodes + 4 * k ≤ 65536 →
    Ext g (eqK g xs ys k).g ∧ ev (eqK g xs ys k).g ins (eqK g xs ys k).x = decide (valU ((evs g ins xs).take k) = valU ((evs g ins ys).take k))
  | 0, _, _ => ⟨Ext.refl _, by show ev g ins 1 = _; rw [ev_one]; simp⟩
  | k + 1, hk, hn => by
    obtain ⟨hE, ih⟩ := eqK_sem hw hx hy hl hxy k (by omega) (by omega)
    obtain ⟨h1, h2⟩ := eqK_spec hx hy k (by omega)
    have n1 := h1.nodes
    obtain ⟨s, hs⟩ : ∃ s, eqK g xs ys k = s := ⟨_, rfl⟩
    rw [hs] at hE ih h1 h2 n1
    rw [eqK, hs]
    have hlS := hl.trans hE.inputs.symm
    have o1 := xor_op (h1.wf hw) (h1.lit (hx.getD k)) (h1.lit (hy.getD k)) (by omega) hlS
    have m1 := o1.grew.nodes
    have o2 := and_op (o1.grew.wf (h1.wf hw)) (o1.grew.lit h2) o1.lit.notL (by omega) (o1.len hlS)
    refine ⟨(hE.trans o1.ext).trans o2.ext, o2.val.trans ?_⟩
    rw [ev_ext o1.ext hlS h2, ih, ev_notL _ _ o1.lit.1, o1.val, ev_ext hE hl (hx.getD k), ev_ext hE hl (hy.getD k), evs_take_succ (by omega), evs_take_succ (by omega)]
    have a1 := valU_nonneg ((evs g ins xs).take k)
    have a2 := valU_lt ((evs g ins xs).take k)
    have b1 := valU_nonneg ((evs g ins ys).take k)
    have b2 := valU_lt ((evs g ins ys).take k)
    rw [List.length_take, evs_length, Nat.min_eq_left (by omega)] at a2 b2
    generalize valU ((evs g ins xs).take k) = a at *
    generalize valU ((evs g ins ys).take k) = b at *
    generalize (2 : Int) ^ k = P at *
    rw [Bool.eq_iff_iff]
    cases ev g ins (xs.getD k 0) <;> cases ev g ins (ys.getD k 0) <;> simp [b01] <;> omega
theorem equal_op (hw : GWf g) (hx : areLit g xs) (hy : areLit g ys) (hl : ins.length = g.inputs) (e1 : xs.length = n) (e2 : ys.length = n) (h1 : 1 ≤ n) (h8 : n ≤ 8) (hn : g.nodes + 81 ≤ 65536) :
    Op1 36 g ((equalF g xs ys).g, (equalF g xs ys).x) ins (decide (valU (evs g ins xs) = valU (evs g ins ys))) := by
  obtain ⟨s1, s2⟩ := equalF_spec (g := g) (x := xs) (y := ys) ⟨by omega, by omega, by omega⟩ hx hy hn
  obtain ⟨k1, k2⟩ := eqK_sem hw hx hy hl (by omega) xs.length (Nat.le_refl _) (by omega)
  rw [List.take_of_length_le (by rw [evs_length]; exact Nat.le_refl _), List.take_of_length_le (by rw [evs_length]; omega)] at k2
  refine ⟨s1, s2, ?_, ?_⟩
  · rw [show equalF g xs ys = eqK g xs ys xs.length from if_pos ⟨by omega, by omega, by omega⟩]; exact k1
  · rw [show equalF g xs ys = eqK g xs ys xs.length from if_pos ⟨by omega, by omega, by omega⟩]; exact k2
theorem lessK_sem (hw : GWf g) (hx : areLit g xs) (hy : areLit g ys) (hl : ins.length = g.inputs) (hxy : xs.length = ys.length) : ∀ k : Nat, k < xs.length → g.nodes + 6 * k ≤ 65536 →
    Ext g (lessK g xs ys k).g ∧ ev (lessK g xs ys k).g ins (lessK g xs ys k).x = decide (valU ((evs g ins xs).take k) < valU ((evs g ins ys).take k))
  | 0, _, _ => ⟨Ext.refl _, by show ev g ins 0 = _; rw [ev_zero]; simp⟩
  | k + 1, hk, hn => by
    obtain ⟨hE, ih⟩ := lessK_sem hw hx hy hl hxy k (by omega) (by omega)
    obtain ⟨h1, h2⟩ := lessK_spec hx hy k (by omega)
    have n1 := h1.nodes
    obtain ⟨s, hs⟩ : ∃ s, lessK g xs ys k = s := ⟨_, rfl⟩
    rw [hs] at hE ih h1 h2 n1
    rw [lessK, hs, if_neg (by omega)]
    have hlS := hl.trans hE.inputs.symm
    have o1 := xor_op (h1.wf hw) (h1.lit (hx.getD k)) (h1.lit (hy.getD k)) (by omega) hlS
    have m1 := o1.grew.nodes
    have o2 := mux_op (o1.grew.wf (h1.wf hw)) o1.lit (o1.grew.lit (h1.lit (hy.getD k))) (o1.grew.lit h2) (by omega) (o1.len hlS)
    refine ⟨(hE.trans o1.ext).trans o2.ext, o2.val.trans ?_⟩
    rw [ev_ext o1.ext hlS h2, ih, o1.val, ev_ext o1.ext hlS (h1.lit (hy.getD k)), ev_ext hE hl (hx.getD k), ev_ext hE hl (hy.getD k), evs_take_succ (by omega), evs_take_succ (by omega)]
    have a1 := valU_nonneg ((evs g ins xs).take k)
    have a2 := valU_lt ((evs g ins xs).take k)
    have b1 := valU_nonneg ((evs g ins ys).take k)
    have b2 := valU_lt ((evs g ins ys).take k)
    rw [List.length_take, evs_length, Nat.min_eq_left (by omega)] at a2 b2
    generalize valU ((evs g ins xs).take k) = a at *
    generalize valU ((evs g ins ys).take k) = b at *
    generalize (2 : Int) ^ k = P at *
    rw [Bool.eq_iff_iff]
    cases ev g ins (xs.getD k 0) <;> cases ev g ins (ys.getD k 0) <;> simp [b01] <;> omega
/-- The integer that a word of bits stands for. -/
def valS (bs : List Bool) : Int := valU bs - (if bs.getLast? = some true then 2 ^ bs.length else 0)
theorem valS_snoc (l : List Bool) (b : Bool) : valS (l ++ [b]) = valU l - 2 ^ l.length * b01 b := by
  unfold valS
  rw [valU_snoc]
  cases b <;> simp [b01, Int.pow_succ] <;> omega
theorem evs_split {k : Nat} (hk : xs.length = k + 1) : evs g ins xs = (evs g ins xs).take k ++ [ev g ins (xs.getD k 0)] := by
  conv => lhs; rw [← List.take_of_length_le (l := evs g ins xs) (i := k + 1) (by rw [evs_length]; omega)]
  rw [List.take_add_one, evs_getD (by omega)]; rfl
theorem valueF_valS {bs : List Bool} (h1 : 1 ≤ bs.length) (h8 : bs.length ≤ 8) : valueF 0 bs = valS bs := by
  unfold valueF valS; rw [if_neg (by omega), if_pos ⟨rfl, h1, h8⟩]
theorem less_op (hw : GWf g) (hx : areLit g xs) (hy : areLit g ys) (hl : ins.length = g.inputs) (e1 : xs.length = n) (e2 : ys.length = n) (h1 : 1 ≤ n) (h8 : n ≤ 8) (hn : g.nodes + 81 ≤ 65536) :
    Op1 48 g ((lessF g xs ys).g, (lessF g xs ys).x) ins (decide (valS (evs g ins xs) < valS (evs g ins ys))) := by
  obtain ⟨k, rfl⟩ : ∃ k, n = k + 1 := ⟨n - 1, by omega⟩
  obtain ⟨s1, s2⟩ := lessK_spec hx hy (k + 1) (by omega)
  obtain ⟨hE, ih⟩ := lessK_sem hw hx hy hl (by omega) k (by omega) (by omega)
  obtain ⟨h1, h2⟩ := lessK_spec hx hy k (by omega)
  rw [show lessF g xs ys = lessK g xs ys (k + 1) from (if_pos ⟨by omega, by omega, by omega⟩).trans (by rw [e1])]
  have n1 := h1.nodes
  refine (fun (X : Ext g (lessK g xs ys (k + 1)).g ∧ ev (lessK g xs ys (k + 1)).g ins (lessK g xs ys (k + 1)).x = decide (valS (evs g ins xs) < valS (evs g ins ys))) => ⟨s1.mono (by omega), s2, X.1, X.2⟩) ?_
  obtain ⟨s, hs⟩ : ∃ s, lessK g xs ys k = s := ⟨_, rfl⟩
  rw [hs] at hE ih h1 h2 n1
  rw [lessK, hs, if_pos (by omega)]
  have hlS := hl.trans hE.inputs.symm
  have o1 := xor_op (h1.wf hw) (h1.lit (hx.getD k)) (h1.lit (hy.getD k)) (by omega) hlS
  have m1 := o1.grew.nodes
  have o2 := mux_op (o1.grew.wf (h1.wf hw)) o1.lit (o1.grew.lit (h1.lit (hx.getD k))) (o1.grew.lit h2) (by omega) (o1.len hlS)
  refine ⟨(hE.trans o1.ext).trans o2.ext, o2.val.trans ?_⟩
  rw [ev_ext o1.ext hlS h2, ih, o1.val, ev_ext o1.ext hlS (h1.lit (hx.getD k)), ev_ext hE hl (hx.getD k), ev_ext hE hl (hy.getD k), evs_split e1, evs_split e2, valS_snoc, valS_snoc]
  have a1 := valU_nonneg ((evs g ins xs).take k)
  have a2 := valU_lt ((evs g ins xs).take k)
  have b1 := valU_nonneg ((evs g ins ys).take k)
  have b2 := valU_lt ((evs g ins ys).take k)
  have tx : ((evs g ins xs).take k).length = k := by rw [List.length_take, evs_length]; omega
  have ty : ((evs g ins ys).take k).length = k := by rw [List.length_take, evs_length]; omega
  rw [tx] at a2 ⊢
  rw [ty] at b2 ⊢
  rw [List.take_left' tx, List.take_left' ty]
  generalize valU ((evs g ins xs).take k) = a at *
  generalize valU ((evs g ins ys).take k) = b at *
  generalize (2 : Int) ^ k = P at *
  rw [Bool.eq_iff_iff]
  cases ev g ins (xs.getD k 0) <;> cases ev g ins (ys.getD k 0) <;> simp [b01] <;> omega
end
end Go.Proofs.Ytgmcajojigedaaa
namespace Go.Proofs.Ytgmcajojigedaaa

structure Gx (k : Nat) (g g' : GS) : Prop where
  grew : Grew k g g'
  ext : Ext g g'
theorem Gx.trans {a b : Nat} {g g' g'' : GS} (h : Gx a g g') (k : Gx b g' g'') : Gx (a + b) g g'' := ⟨h.grew.trans k.grew, h.ext.trans k.ext⟩
/-- A word of a circuit, and its bits. -/
structure Wd (g : GS) (ins : List Bool) (out : List Int) (n : Nat) (bs : List Bool) : Prop where
  lits : areLit g out
  len : out.length = n
  val : evs g ins out = bs
/-- A circuit that can be evaluated. -/
structure Sv (ins : List Bool) (g : GS) : Prop where
  wf : GWf g
  len : ins.length = g.inputs
section
variable {g g' : GS} {xs ys out : List Int} {ins : List Bool} {n k : Nat} {bs cs : List Bool} {c : Int} {b : Bool}
theorem Sv.gx (h : Sv ins g) (x : Gx k g g') : Sv ins g' := ⟨x.grew.wf h.wf, h.len.trans x.ext.inputs.symm⟩
theorem Wd.gx (h : Wd g ins out n bs) (x : Gx k g g') (s : Sv ins g) : Wd g' ins out n bs := ⟨x.grew.lits h.lits, h.len, (evs_ext x.ext s.len h.lits).trans h.val⟩
theorem Wd.blen (h : Wd g ins out n bs) : bs.length = n := by rw [← h.val, evs_length]; exact h.len
theorem Wd.bit (h : Wd g ins out n bs) {j : Nat} (hj : j < n) : ev g ins (out.getD j 0) = bs.getD j false := by
  have := evs_getD (g := g) (ins := ins) (xs := out) (k := j) (by rw [h.len]; exact hj)
  rw [h.val] at this
  rw [List.getD_eq_getElem?_getD (l := bs), this]; rfl
theorem wd_bits (g : GS) (ins : List Bool) (n : Nat) (m : Int) : Wd g ins (bitsI n m) n (bitsOf m n) := ⟨areLit.bits _ _, bitsI_length _ _, evs_bits _ _ _ _⟩
theorem wd_not (s : Sv ins g) (X : Wd g ins xs n bs) : Wd g ins (xs.map notL) n (bs.map (!·)) := ⟨X.lits.map_notL, by rw [List.length_map]; exact X.len, by rw [evs_notL X.lits, X.val]⟩
theorem sv_sum (s : Sv ins g) (X : Wd g ins xs n bs) (Y : Wd g ins ys n cs) (hc : isLit g c) (h9 : n ≤ 9) (hn : g.nodes + 81 ≤ 65536) :
    ∃ ds, Gx 81 g (sumF g xs ys c).g ∧ Wd (sumF g xs ys c).g ins (sumF g xs ys c).out n ds ∧ isLit (sumF g xs ys c).g (sumF g xs ys c).c ∧ valU ds + 2 ^ n * b01 (ev (sumF g xs ys c).g ins (sumF g xs ys c).c) = valU bs + valU cs + b01 (ev g ins c) := by
  obtain ⟨o, l, v⟩ := sum_op s.wf X.lits Y.lits hc s.len X.len Y.len h9 hn
  rw [X.val, Y.val] at v
  exact ⟨_, ⟨o.grew, o.ext⟩, ⟨o.lits, o.len, rfl⟩, l, v⟩
theorem sv_choose (s : Sv ins g) (X : Wd g ins xs n bs) (Y : Wd g ins ys n cs) (hc : isLit g c) (hb : ev g ins c = b) (h9 : n ≤ 9) (hn : g.nodes + 27 ≤ 65536) :
    Gx 27 g (chooseF g c xs ys).g ∧ Wd (chooseF g c xs ys).g ins (chooseF g c xs ys).out n (if b then bs else cs) := by
  obtain ⟨o, v⟩ := choose_op s.wf hc X.lits Y.lits s.len X.len Y.len h9 hn
  rw [X.val, Y.val, hb] at v
  exact ⟨⟨o.grew, o.ext⟩, ⟨o.lits, o.len, v⟩⟩
theorem sv_neg (s : Sv ins g) (X : Wd g ins xs n bs) (h1 : 1 ≤ n) (h8 : n ≤ 8) (hn : g.nodes + 81 ≤ 65536) :
    ∃ ds, Gx 81 g (negF g xs).g ∧ Wd (negF g xs).g ins (negF g xs).out n ds ∧ valU ds = (-valU bs) % 2 ^ n := by
  obtain ⟨o, v⟩ := neg_op s.wf X.lits s.len X.len h1 h8 hn
  rw [X.val] at v
  exact ⟨_, ⟨o.grew, o.ext⟩, ⟨o.lits, o.len, rfl⟩, v⟩
theorem sv_equal (s : Sv ins g) (X : Wd g ins xs n bs) (Y : Wd g ins ys n cs) (h1 : 1 ≤ n) (h8 : n ≤ 8) (hn : g.nodes + 81 ≤ 65536) :
    Gx 36 g (equalF g xs ys).g ∧ isLit (equalF g xs ys).g (equalF g xs ys).x ∧ ev (equalF g xs ys).g ins (equalF g xs ys).x = decide (valU bs = valU cs) := by
  have o := equal_op s.wf X.lits Y.lits s.len X.len Y.len h1 h8 hn
  have v := o.val
  rw [X.val, Y.val] at v
  exact ⟨⟨o.grew, o.ext⟩, o.lit, v⟩
theorem sv_xor {x y : Int} {a b : Bool} (s : Sv ins g) (hx : isLit g x) (hy : isLit g y) (ha : ev g ins x = a) (hb : ev g ins y = b) (hn : g.nodes + 2 < 65536) :
    Gx 3 g (xorF g x y).1 ∧ isLit (xorF g x y).1 (xorF g x y).2 ∧ ev (xorF g x y).1 ins (xorF g x y).2 = (a != b) := by
  have o := xor_op s.wf hx hy hn s.len
  have v := o.val
  rw [ha, hb] at v
  exact ⟨⟨o.grew, o.ext⟩, o.lit, v⟩

/-! ### The loop of the division -/
theorem divK_sem {ax wide : List Int} {av ds : List Bool} (s : Sv ins g) (X : Wd g ins ax n av) (Y : Wd g ins wide (n + 1) ds) (h8 : n ≤ 8) (hD : valU ds < 2 ^ n) : ∀ i, i ≤ n → g.nodes + 108 * i ≤ 65536 →
    ∃ qs rs, Gx (108 * i) g (divK g ax wide n i).g ∧ Wd (divK g ax wide n i).g ins (divK g ax wide n i).q n qs ∧ Wd (divK g ax wide n i).g ins (divK g ax wide n i).r (n + 1) rs ∧
      (0 < valU ds → ∃ Q : Int, 0 ≤ Q ∧ valU (av.drop (n - i)) = valU ds * Q + valU rs ∧ valU rs < valU ds ∧ valU qs = 2 ^ (n - i) * Q ∧ ∀ j, j < n - i → qs[j]? = some false)
  | 0, _, _ => by
    refine ⟨_, _, ⟨Grew.refl _ _, Ext.refl _⟩, wd_bits _ _ _ _, wd_bits _ _ _ _, fun h => ⟨0, Int.le_refl _, ?_, ?_, ?_, ?_⟩⟩
    · rw [List.drop_of_length_le (by rw [X.blen]; omega), valU_bitsOf]; simp [valU]
    · rw [valU_bitsOf]; simpa using h
    · rw [valU_bitsOf]; simp
    · intro j hj; rw [bitsOf, List.getElem?_map, List.getElem?_range (by omega)]; simp
  | i + 1, hi, hn => by
    obtain ⟨qs, rs, hG, hQ, hR, hv⟩ := divK_sem s X Y h8 hD i (by omega) (by omega)
    have n1 := hG.grew.nodes
    obtain ⟨st, hst⟩ : ∃ st, divK g ax wide n i = st := ⟨_, rfl⟩
    rw [hst] at hG hQ hR n1
    rw [divK, hst]
    obtain ⟨k, hk⟩ : ∃ k, n - 1 - i = k := ⟨_, rfl⟩
    have hkn : n - i = k + 1 := by omega
    rw [hk, show n - (i + 1) = k by omega]
    rw [hkn] at hv
    have hS := s.gx hG
    have hXS := X.gx hG s
    have hYS := Y.gx hG s
    have hrest : Wd st.g ins (ax.getD k 0 :: st.r.take n) (n + 1) (av.getD k false :: rs.take n) := by
      refine ⟨fun z hz => ?_, by simp [List.length_take, hR.len], ?_⟩
      · rcases List.mem_cons.1 hz with h | h
        · rw [h]; exact hXS.lits.getD k
        · exact hR.lits z (List.mem_of_mem_take h)
      · show evs st.g ins _ = _
        rw [← hXS.bit (by omega), ← hR.val]
        simp [evs, List.map_take]
    obtain ⟨us, uG, uW, uc, uv⟩ := sv_sum (c := 1) hS hrest (wd_not hS hYS) (lit_one _) (by omega) (by omega)
    have n2 := uG.grew.nodes
    unfold divStep
    dsimp only
    obtain ⟨u, hu⟩ : ∃ u, sumF st.g (ax.getD k 0 :: st.r.take n) (wide.map notL) 1 = u := ⟨_, rfl⟩
    rw [hu] at uG uW uc uv n2
    rw [hu]
    obtain ⟨cv, hcv⟩ : ∃ cv, ev u.g ins u.c = cv := ⟨_, rfl⟩
    obtain ⟨cG, cW⟩ := sv_choose (hS.gx uG) uW (hrest.gx uG hS) uc hcv (by omega) (by omega)
    have hQ' : Wd (chooseF u.g u.c u.out (ax.getD k 0 :: st.r.take n)).g ins (st.q.set k u.c) n (qs.set k cv) := by
      have hq := (hQ.gx uG hS).gx cG (hS.gx uG)
      refine ⟨hq.lits.set (cG.grew.lit uc), by rw [List.length_set]; exact hq.len, ?_⟩
      rw [evs, List.map_set]
      have e1 : List.map (ev (chooseF u.g u.c u.out (ax.getD k 0 :: st.r.take n)).g ins) st.q = qs := hq.val
      rw [e1, ev_ext cG.ext (hS.gx uG).len uc, hcv]
    refine ⟨_, _, (hG.trans (uG.trans cG)), hQ', cW, fun h => ?_⟩
    obtain ⟨Q, q0, v1, v2, v3, v4⟩ := hv h
    have hkq : qs[k]? = some false := v4 k (by omega)
    have hrl := hR.blen
    have hsplit : valU rs = valU (rs.take n) + 2 ^ n * valU (rs.drop n) := by
      conv => lhs; rw [← List.take_append_drop n rs]
      rw [valU_append, List.length_take, Nat.min_eq_left (by omega)]
    have hr0 := valU_nonneg (rs.take n)
    have hr1 := valU_nonneg (rs.drop n)
    have hP := pow_pos2 n
    have htop : valU (rs.drop n) = 0 := by
      rcases Int.lt_or_le 0 (valU (rs.drop n)) with h5 | h5
      · have : (2 : Int) ^ n * 1 ≤ 2 ^ n * valU (rs.drop n) := Int.mul_le_mul_of_nonneg_left (by omega) (by omega)
        omega
      · omega
    rw [htop, Int.mul_zero, Int.add_zero] at hsplit
    have hnl : (av.getD k false :: rs.take n).length = n + 1 := hrest.blen
    rw [valU_not, Y.blen, ev_one, hcv, valU, ← hsplit] at uv
    have ub0 := valU_nonneg us
    have ub1 := valU_lt us
    rw [uW.blen] at ub1
    have hdrop : valU (av.drop k) = b01 (av.getD k false) + 2 * valU (av.drop (k + 1)) := by
      have hlt : k < av.length := by rw [X.blen]; omega
      rw [List.drop_eq_getElem_cons hlt, valU, List.getD_eq_getElem?_getD, List.getElem?_eq_getElem hlt]; rfl
    have hd0 := valU_nonneg ds
    have hrs0 := valU_nonneg rs
    have hP1 : (2 : Int) ^ (n + 1) = 2 * 2 ^ n := by rw [Int.pow_succ, Int.mul_comm]
    rw [hP1] at uv ub1
    have hb := b01_cases (av.getD k false)
    have hcat : valU (av.getD k false :: rs.take n) = b01 (av.getD k false) + 2 * valU rs := by rw [valU, ← hsplit]
    refine ⟨2 * Q + b01 cv, by have := b01_cases cv; omega, ?_, ?_, ?_, ?_⟩
    · rw [hdrop, v1, Int.mul_add, Int.mul_add]
      have : valU ds * (2 * Q) = 2 * (valU ds * Q) := Int.mul_left_comm _ _ _
      rw [this]
      generalize valU ds * Q = E at *
      cases cv
      · rw [if_neg (by simp), hcat]
        rw [show b01 false = 0 from rfl, Int.mul_zero]
        generalize b01 (av.getD k false) = bb at *
        omega
      · rw [if_pos rfl]
        rw [show b01 true = 1 from rfl, Int.mul_one] at uv ⊢
        generalize b01 (av.getD k false) = bb at *
        omega
    · cases cv
      · rw [if_neg (by simp), hcat]
        rw [show b01 false = 0 from rfl, Int.mul_zero, show b01 true = 1 from rfl] at uv
        generalize b01 (av.getD k false) = bb at *
        omega
      · rw [if_pos rfl]
        rw [show b01 true = 1 from rfl, Int.mul_one] at uv
        generalize b01 (av.getD k false) = bb at *
        omega
    · rw [valU_set _ _ _ hkq, v3, Int.pow_succ, Int.mul_add, Int.mul_assoc]
    · intro j hj
      rw [List.getElem?_set_ne (by omega)]
      exact v4 j (by omega)

/-! ### Signs -/
theorem valS_mod (bs : List Bool) : valU bs = valS bs % 2 ^ bs.length := by
  have h0 := valU_nonneg bs
  have h1 := valU_lt bs
  unfold valS
  split
  · exact emod_of h0 h1 (c := -1) (by omega)
  · exact emod_of h0 h1 (c := 0) (by omega)
theorem split_last {k : Nat} (h : bs.length = k + 1) : bs = bs.take k ++ [bs.getD k false] := by
  conv => lhs; rw [← List.take_of_length_le (l := bs) (i := k + 1) (by omega)]
  rw [List.take_add_one, List.getElem?_eq_getElem (by omega), List.getD_eq_getElem?_getD, List.getElem?_eq_getElem (by omega)]; rfl
theorem valS_sign {k : Nat} (h : bs.length = k + 1) : bs.getD k false = decide (valS bs < 0) ∧ -(2 ^ k) ≤ valS bs ∧ valS bs < 2 ^ k ∧ (valU bs = 0 ↔ valS bs = 0) := by
  have e := split_last h
  obtain ⟨b, hb⟩ : ∃ b, bs.getD k false = b := ⟨_, rfl⟩
  rw [hb] at e ⊢
  have hl : (bs.take k).length = k := by rw [List.length_take]; omega
  have h0 := valU_nonneg (bs.take k)
  have h1 := valU_lt (bs.take k)
  rw [hl] at h1
  have e2 : valS bs = valU (bs.take k) - 2 ^ k * b01 b := by rw [e, valS_snoc, List.take_left' hl, hl]
  have e3 : valU bs = valU (bs.take k) + 2 ^ k * b01 b := by rw [e, valU_snoc, List.take_left' hl, hl]
  rw [e2, e3]
  generalize valU (bs.take k) = a at *
  generalize (2 : Int) ^ k = P at *
  cases b <;> simp [b01] <;> omega
theorem abs_val {k : Nat} (h : bs.length = k + 1) : (if decide (valS bs < 0) = true then (-valU bs) % 2 ^ (k + 1) else valU bs) = ((valS bs).natAbs : Int) ∧ ((valS bs).natAbs : Int) ≤ 2 ^ k := by
  obtain ⟨_, h2, h3, _⟩ := valS_sign h
  have hm := valS_mod bs
  have hP := pow_pos2 k
  have hu0 := valU_nonneg bs
  have hu1 := valU_lt bs
  rw [h] at hm hu1
  refine ⟨?_, by omega⟩
  rw [Int.pow_succ] at hm hu1 ⊢
  have e : valS bs = valU bs - 2 ^ k * 2 ∨ valS bs = valU bs := by
    unfold valS
    rw [h, Int.pow_succ]
    split
    · exact .inl rfl
    · exact .inr (by omega)
  clear hm
  rcases e with e | e <;> rw [e] at h2 h3 ⊢
  · rw [show decide (valU bs - 2 ^ k * 2 < 0) = true from decide_eq_true (by omega), if_pos rfl]
    refine (emod_of (a := ((valU bs - 2 ^ k * 2).natAbs : Int)) (c := -1) ?_ ?_ ?_).symm <;> omega
  · rw [show decide (valU bs < 0) = false from decide_eq_false (by omega)]
    simp only [Bool.false_eq_true, if_false]
    omega
theorem tdiv_of {a b Q R : Int} (h : (a.natAbs : Int) = b.natAbs * Q + R) (h0 : 0 ≤ R) (h1 : R < b.natAbs) :
    a.tdiv b = (if (decide (a < 0) != decide (b < 0)) = true then -Q else Q) ∧ a.tmod b = (if decide (a < 0) = true then -R else R) := by
  have hb : 0 < (b.natAbs : Int) := by omega
  obtain ⟨e1, e2⟩ := (Int.ediv_emod_unique (a := (a.natAbs : Int)) (q := Q) (r := R) hb).2 ⟨by omega, h0, h1⟩
  have d1 : (a.natAbs : Int).tdiv (b.natAbs : Int) = Q := by rw [Int.tdiv_eq_ediv_of_nonneg (by omega)]; exact e1
  have d2 : (a.natAbs : Int).tmod (b.natAbs : Int) = R := by rw [Int.tmod_eq_emod_of_nonneg (by omega)]; exact e2
  rcases Int.lt_or_le a 0 with ha | ha <;> rcases Int.lt_or_le b 0 with hb' | hb'
  · have ea : a = -(a.natAbs : Int) := by omega
    have eb : b = -(b.natAbs : Int) := by omega
    have da : decide (a < 0) = true := decide_eq_true ha
    have db : decide (b < 0) = true := decide_eq_true hb'
    rw [da, db]
    rw [ea, eb, Int.neg_tdiv, Int.tdiv_neg, Int.neg_tmod, Int.tmod_neg, d1, d2]
    simp
  · have ea : a = -(a.natAbs : Int) := by omega
    have eb : b = (b.natAbs : Int) := by omega
    have da : decide (a < 0) = true := decide_eq_true ha
    have db : decide (b < 0) = false := decide_eq_false (by omega)
    rw [da, db]
    rw [ea, eb, Int.neg_tdiv, Int.neg_tmod, d1, d2]
    simp
  · have ea : a = (a.natAbs : Int) := by omega
    have eb : b = -(b.natAbs : Int) := by omega
    have da : decide (a < 0) = false := decide_eq_false (by omega)
    have db : decide (b < 0) = true := decide_eq_true hb'
    rw [da, db]
    rw [ea, eb, Int.tdiv_neg, Int.tmod_neg, d1, d2]
    simp
  · have ea : a = (a.natAbs : Int) := by omega
    have eb : b = (b.natAbs : Int) := by omega
    have da : decide (a < 0) = false := decide_eq_false (by omega)
    have db : decide (b < 0) = false := decide_eq_false (by omega)
    rw [da, db]
    rw [ea, eb, d1, d2]
    simp

theorem valU_zero_bits (n : Nat) : valU (bitsOf 0 n) = 0 := by rw [valU_bitsOf]; simp
theorem wd_push (h : Wd g ins out n bs) : Wd g ins (out ++ [0]) (n + 1) (bs ++ [false]) := ⟨h.lits.push (lit_zero _), by rw [List.length_append, h.len]; rfl, by rw [evs_append, h.val]; congr 1; simp [evs, ev_zero]⟩
theorem wd_take {m : Nat} (h : Wd g ins out n bs) (hm : m ≤ n) : Wd g ins (out.take m) m (bs.take m) := ⟨fun z hz => h.lits z (List.mem_of_mem_take hz), by rw [List.length_take, h.len]; omega, by rw [← h.val]; simp [evs, List.map_take]⟩
theorem neg_mod_choose (b : Bool) {v P : Int} (h0 : 0 ≤ v) (h1 : v < P) {ds es : List Bool} (hd : valU ds = (-valU es) % P) (he : valU es = v) : valU (if b then ds else es) = (if b then -v else v) % P := by
  cases b
  · simp only [Bool.false_eq_true, if_false]; rw [he, Int.emod_eq_of_lt h0 h1]
  · simp only [if_true]; rw [hd, he]

theorem divide_sem (s : Sv ins g) (X : Wd g ins xs n bs) (Y : Wd g ins ys n cs) (h1 : 1 ≤ n) (h8 : n ≤ 8) (hn : g.nodes + 2000 ≤ 65536) :
    ∃ qs rs, Gx 1400 g (divideF g xs ys).g ∧ Wd (divideF g xs ys).g ins (divideF g xs ys).q n qs ∧ Wd (divideF g xs ys).g ins (divideF g xs ys).r n rs ∧
      valU qs = (if valS cs = 0 then 0 else (valS bs).tdiv (valS cs)) % 2 ^ n ∧ valU rs = (if valS cs = 0 then valS bs else (valS bs).tmod (valS cs)) % 2 ^ n := by
  obtain ⟨k, rfl⟩ : ∃ k, n = k + 1 := ⟨n - 1, by omega⟩
  have hxl := X.len
  have hyl := Y.len
  have hbl := X.blen
  have hcl := Y.blen
  obtain ⟨sgx, bx1, bx2, bx3⟩ := valS_sign hbl
  obtain ⟨sgy, by1, by2, by3⟩ := valS_sign hcl
  obtain ⟨ax1, ax2⟩ := abs_val hbl
  obtain ⟨ay1, ay2⟩ := abs_val hcl
  have hP : (2 : Int) ^ (k + 1) = 2 ^ k * 2 := Int.pow_succ _ _
  have hP0 := pow_pos2 k
  rw [show divideF g xs ys = divZ (divK (divA g xs ys).g (divA g xs ys).ax ((divA g xs ys).ay ++ [0]) xs.length xs.length) xs ys from if_pos ⟨by omega, by omega, by omega⟩]
  -- the magnitudes
  unfold divA divZ
  dsimp only
  rw [hxl, show k + 1 - 1 = k from rfl]
  have lsx : isLit g (xs.getD k 0) := X.lits.getD k
  have lsy : isLit g (ys.getD k 0) := Y.lits.getD k
  have vsx : ev g ins (xs.getD k 0) = decide (valS bs < 0) := (X.bit (by omega)).trans sgx
  have vsy : ev g ins (ys.getD k 0) = decide (valS cs < 0) := (Y.bit (by omega)).trans sgy
  obtain ⟨d1, G1, W1, v1⟩ := sv_neg s X (by omega) h8 (by omega)
  have m1 := G1.grew.nodes
  obtain ⟨n1, e1⟩ : ∃ n1, negF g xs = n1 := ⟨_, rfl⟩
  rw [e1] at G1 W1 m1 ⊢
  have s1 := s.gx G1
  obtain ⟨G2', W2⟩ := sv_choose s1 W1 (X.gx G1 s) (G1.grew.lit lsx) ((ev_ext G1.ext s.len lsx).trans vsx) (by omega) (by omega)
  obtain ⟨n2, e2⟩ : ∃ n2, chooseF n1.g (xs.getD k 0) n1.out xs = n2 := ⟨_, rfl⟩
  rw [e2] at G2' W2 ⊢
  have G2 := G1.trans G2'
  have m2 := G2.grew.nodes
  have s2 := s.gx G2
  obtain ⟨d3, G3', W3, v3⟩ := sv_neg s2 (Y.gx G2 s) (by omega) h8 (by omega)
  obtain ⟨n3, e3⟩ : ∃ n3, negF n2.g ys = n3 := ⟨_, rfl⟩
  rw [e3] at G3' W3 ⊢
  have G3 := G2.trans G3'
  have m3 := G3.grew.nodes
  have s3 := s.gx G3
  obtain ⟨G4', W4⟩ := sv_choose s3 W3 (Y.gx G3 s) (G3.grew.lit lsy) ((ev_ext G3.ext s.len lsy).trans vsy) (by omega) (by omega)
  obtain ⟨n4, e4⟩ : ∃ n4, chooseF n3.g (ys.getD k 0) n3.out ys = n4 := ⟨_, rfl⟩
  rw [e4] at G4' W4 ⊢
  have G4 := G3.trans G4'
  have m4 := G4.grew.nodes
  have s4 := s.gx G4
  have WA := (W2.gx G3' s2).gx G4' s3
  have vA : valU (if decide (valS bs < 0) = true then d1 else bs) = ((valS bs).natAbs : Int) := by
    rw [← ax1]; split
    · exact v1
    · rfl
  have vB : valU (if decide (valS cs < 0) = true then d3 else cs) = ((valS cs).natAbs : Int) := by
    rw [← ay1]; split
    · exact v3
    · rfl
  obtain ⟨av, has⟩ : ∃ av, (if decide (valS bs < 0) = true then d1 else bs) = av := ⟨_, rfl⟩
  obtain ⟨es, hes⟩ : ∃ es, (if decide (valS cs < 0) = true then d3 else cs) = es := ⟨_, rfl⟩
  rw [has] at WA vA
  rw [hes] at W4 vB
  have WW := wd_push W4
  have vW : valU (es ++ [false]) = ((valS cs).natAbs : Int) := by rw [valU_snoc, vB]; simp [b01]
  -- the loop
  obtain ⟨qs, rs, G5', WQ, WR, hv⟩ := divK_sem s4 WA WW h8 (by rw [vW]; omega) (k + 1) (Nat.le_refl _) (by omega)
  obtain ⟨st, e5⟩ : ∃ st, divK n4.g n2.out (n4.out ++ [0]) (k + 1) (k + 1) = st := ⟨_, rfl⟩
  rw [e5] at G5' WQ WR ⊢
  have G5 := G4.trans G5'
  have m5 := G5.grew.nodes
  have s5 := s.gx G5
  have WT := wd_take WR (m := k + 1) (by omega)
  -- the signs of the results
  obtain ⟨G6', lh, vh⟩ := sv_xor s5 (G5.grew.lit lsx) (G5.grew.lit lsy) ((ev_ext G5.ext s.len lsx).trans vsx) ((ev_ext G5.ext s.len lsy).trans vsy) (by omega)
  obtain ⟨h, e6⟩ : ∃ h, xorF st.g (xs.getD k 0) (ys.getD k 0) = h := ⟨_, rfl⟩
  rw [e6] at G6' lh vh ⊢
  have G6 := G5.trans G6'
  have m6 := G6.grew.nodes
  have s6 := s.gx G6
  obtain ⟨d7, G7', W7, v7⟩ := sv_neg s6 (WQ.gx G6' s5) (by omega) h8 (by omega)
  obtain ⟨n7, e7⟩ : ∃ n7, negF h.1 st.q = n7 := ⟨_, rfl⟩
  rw [e7] at G7' W7 ⊢
  have G7 := G6.trans G7'
  have m7 := G7.grew.nodes
  have s7 := s.gx G7
  obtain ⟨G8', W8⟩ := sv_choose s7 W7 ((WQ.gx G6' s5).gx G7' s6) (G7'.grew.lit lh) ((ev_ext G7'.ext s6.len lh).trans vh) (by omega) (by omega)
  obtain ⟨n8, e8⟩ : ∃ n8, chooseF n7.g h.2 n7.out st.q = n8 := ⟨_, rfl⟩
  rw [e8] at G8' W8 ⊢
  have G8 := G7.trans G8'
  have m8 := G8.grew.nodes
  have s8 := s.gx G8
  have WT8 := ((WT.gx G6' s5).gx G7' s6).gx G8' s7
  obtain ⟨d9, G9', W9, v9⟩ := sv_neg s8 WT8 (by omega) h8 (by omega)
  obtain ⟨n9, e9⟩ : ∃ n9, negF n8.g (st.r.take (k + 1)) = n9 := ⟨_, rfl⟩
  rw [e9] at G9' W9 ⊢
  have G9 := G8.trans G9'
  have m9 := G9.grew.nodes
  have s9 := s.gx G9
  obtain ⟨G10', W10⟩ := sv_choose s9 W9 (WT8.gx G9' s8) (G9.grew.lit lsx) ((ev_ext G9.ext s.len lsx).trans vsx) (by omega) (by omega)
  obtain ⟨n10, e10⟩ : ∃ n10, chooseF n9.g (xs.getD k 0) n9.out (st.r.take (k + 1)) = n10 := ⟨_, rfl⟩
  rw [e10] at G10' W10 ⊢
  have G10 := G9.trans G10'
  have m10 := G10.grew.nodes
  have s10 := s.gx G10
  obtain ⟨G11', lz, vz⟩ := sv_equal s10 (Y.gx G10 s) (wd_bits _ _ (k + 1) 0) (by omega) h8 (by omega)
  obtain ⟨z, e11⟩ : ∃ z, equalF n10.g ys (bitsI (k + 1) 0) = z := ⟨_, rfl⟩
  rw [e11] at G11' lz vz ⊢
  have G11 := G10.trans G11'
  have m11 := G11.grew.nodes
  have s11 := s.gx G11
  obtain ⟨G12', W12⟩ := sv_choose s11 (wd_bits _ _ (k + 1) 0) (((W8.gx G9' s8).gx G10' s9).gx G11' s10) lz vz (by omega) (by omega)
  obtain ⟨n12, e12⟩ : ∃ n12, chooseF z.g z.x (bitsI (k + 1) 0) n8.out = n12 := ⟨_, rfl⟩
  rw [e12] at G12' W12 ⊢
  have G12 := G11.trans G12'
  have m12 := G12.grew.nodes
  have s12 := s.gx G12
  obtain ⟨G13', W13⟩ := sv_choose s12 (X.gx G12 s) ((W10.gx G11' s10).gx G12' s11) (G12'.grew.lit lz) ((ev_ext G12'.ext s11.len lz).trans vz) (by omega) (by omega)
  obtain ⟨n13, e13⟩ : ∃ n13, chooseF n12.g z.x xs n10.out = n13 := ⟨_, rfl⟩
  rw [e13] at G13' W13 ⊢
  have G13 := G12.trans G13'
  refine ⟨_, _, ⟨G13.grew.mono (by omega), G13.ext⟩, W12.gx G13' s12, W13, ?_, ?_⟩
  · rw [valU_zero_bits]
    by_cases hy : valS cs = 0
    · rw [if_pos hy, if_pos (decide_eq_true (by3.2 hy)), valU_zero_bits, Int.zero_emod]
    · have hyu : ¬ valU cs = 0 := fun e => hy (by3.1 e)
      obtain ⟨Q, q0, f1, f2, f3, _⟩ := hv (by rw [vW]; exact Int.natCast_pos.2 (Int.natAbs_pos.2 hy))
      rw [Nat.sub_self, List.drop_zero, vA, vW] at f1
      rw [vW] at f2
      rw [Nat.sub_self, Int.pow_zero, Int.one_mul] at f3
      obtain ⟨t1, t2⟩ := tdiv_of (a := valS bs) (b := valS cs) f1 (valU_nonneg _) f2
      rw [if_neg hy, if_neg (by simpa using hyu), t1]
      refine neg_mod_choose _ q0 ?_ v7 f3
      have hq := valU_lt qs
      rw [WQ.blen] at hq
      omega
  · rw [valU_zero_bits]
    by_cases hy : valS cs = 0
    · rw [if_pos hy, if_pos (decide_eq_true (by3.2 hy))]
      have := valS_mod bs
      rwa [hbl] at this
    · have hyu : ¬ valU cs = 0 := fun e => hy (by3.1 e)
      obtain ⟨Q, q0, f1, f2, f3, _⟩ := hv (by rw [vW]; exact Int.natCast_pos.2 (Int.natAbs_pos.2 hy))
      rw [Nat.sub_self, List.drop_zero, vA, vW] at f1
      rw [vW] at f2
      obtain ⟨t1, t2⟩ := tdiv_of (a := valS bs) (b := valS cs) f1 (valU_nonneg _) f2
      rw [if_neg hy, if_neg (by simpa using hyu), t2]
      have hrl := WR.blen
      have hsplit : valU rs = valU (rs.take (k + 1)) + 2 ^ (k + 1) * valU (rs.drop (k + 1)) := by
        conv => lhs; rw [← List.take_append_drop (k + 1) rs]
        rw [valU_append, List.length_take, Nat.min_eq_left (by omega)]
      have hr0 := valU_nonneg (rs.take (k + 1))
      have hr1 := valU_nonneg (rs.drop (k + 1))
      have htop : valU (rs.drop (k + 1)) = 0 := by
        rcases Int.lt_or_le 0 (valU (rs.drop (k + 1))) with h5 | h5
        · have : (2 : Int) ^ (k + 1) * 1 ≤ 2 ^ (k + 1) * valU (rs.drop (k + 1)) := Int.mul_le_mul_of_nonneg_left (by omega) (by omega)
          omega
        · omega
      rw [htop, Int.mul_zero, Int.add_zero] at hsplit
      refine neg_mod_choose _ (valU_nonneg _) (by omega) v9 hsplit.symm

/-- A word of a width whose value is equal to m modulo 2^width stands for m, wrapped. -/
theorem valueF_wrap {a m : Int} (h1 : 2 ≤ a) (h2 : a ≤ 8) (hl : bs.length = a.toNat) (hv : valU bs = m % 2 ^ a.toNat) : valueF 0 bs = wrapW a m := by
  rw [valueF_valS (by omega) (by omega)]
  obtain ⟨k, hk⟩ : ∃ k, a.toNat = k + 1 := ⟨a.toNat - 1, by omega⟩
  obtain ⟨_, h3, h4, _⟩ := valS_sign (bs := bs) (k := k) (by omega)
  have hm := valS_mod bs
  rw [hl] at hm
  unfold wrapW
  rw [if_pos ⟨h1, h2⟩]
  rw [hv] at hm
  have hka : k = 1 ∨ k = 2 ∨ k = 3 ∨ k = 4 ∨ k = 5 ∨ k = 6 ∨ k = 7 := by omega
  rw [hk] at hm ⊢
  rcases hka with rfl | rfl | rfl | rfl | rfl | rfl | rfl <;> simp [Int.bmod] at * <;> omega

/-! ### The words of inputs -/
theorem ev_input {j : Nat} (hl : ins.length = g.inputs) (hj : j < g.inputs) : ev g ins (2 * ((j + 1 : Nat) : Int)) = ins.getD j false := by
  rw [← ev_at hl 0 (Nat.zero_le _) (by omega) (by omega)]
  unfold litV
  rw [show (2 * ((j + 1 : Nat) : Int) / 2).toNat = j + 1 by omega, show (2 * ((j + 1 : Nat) : Int)) % 2 = 0 by omega]
  simp [valsF]
end
end Go.Proofs.Ytgmcajojigedaaa
