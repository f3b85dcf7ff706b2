/- What the literals of a circuit mean: plain laws, no program. -/
import Derived.Test.YtgmcajojigedaaaDa
set_option linter.unusedSimpArgs false
set_option linter.unusedVariables false
namespace Go.Proofs.Ytgmcajojigedaaa

/-- The value of a literal of a circuit for some inputs. -/
def ev (g : GS) (ins : List Bool) (x : Int) : Bool := litV (valuesF g ins) x
/-- g' has the gates of g, and perhaps more behind them. -/
structure Ext (g g' : GS) : Prop where
  inputs : g'.inputs = g.inputs
  pre : ∃ l, g'.gates = g.gates ++ l
theorem Ext.refl (g : GS) : Ext g g := ⟨rfl, [], by simp⟩
theorem Ext.trans {a b c : GS} (h : Ext a b) (k : Ext b c) : Ext a c := by
  obtain ⟨l, hl⟩ := h.pre
  obtain ⟨m, hm⟩ := k.pre
  exact ⟨k.inputs.trans h.inputs, l ++ m, by rw [hm, hl, List.append_assoc]⟩

theorem valsF_ext {g g' : GS} (h : Ext g g') (ins : List Bool) : ∀ k, k ≤ g.gates.length → valsF g' ins k = valsF g ins k
  | 0, _ => rfl
  | k + 1, hk => by
    obtain ⟨l, hl⟩ := h.pre
    have e : g'.gates[k]? = g.gates[k]? := by rw [hl, List.getElem?_append_left (by omega)]
    simp only [valsF, valsF_ext h ins k (by omega), e]
theorem valsF_more (g : GS) (ins : List Bool) (k : Nat) : ∀ j, ∃ l, valsF g ins (k + j) = valsF g ins k ++ l
  | 0 => ⟨[], by simp⟩
  | j + 1 => by
    obtain ⟨l, hl⟩ := valsF_more g ins k j
    exact ⟨_, by rw [show k + (j + 1) = (k + j) + 1 from rfl, valsF, hl, List.append_assoc]⟩
theorem litV_append (vs l : List Bool) {x : Int} (h0 : 0 ≤ x) (h1 : x < 2 * (vs.length : Int)) : litV (vs ++ l) x = litV vs x := by
  unfold litV
  have : (x / 2).toNat < vs.length := by omega
  rw [List.getD_eq_getElem?_getD, List.getD_eq_getElem?_getD, List.getElem?_append_left this]
theorem ev_at {g : GS} {ins : List Bool} {x : Int} (hl : ins.length = g.inputs) (k : Nat) (hk : k ≤ g.gates.length) (h0 : 0 ≤ x) (h1 : x < 2 * ((1 + g.inputs + k : Nat) : Int)) : litV (valsF g ins k) x = ev g ins x := by
  obtain ⟨l, e⟩ := valsF_more g ins k (g.gates.length - k)
  rw [show k + (g.gates.length - k) = g.gates.length by omega] at e
  unfold ev valuesF
  rw [e, litV_append _ _ h0 (by rw [valsF_length, hl]; exact h1)]
theorem ev_ext {g g' : GS} (h : Ext g g') {ins : List Bool} (hl : ins.length = g.inputs) {x : Int} (hx : isLit g x) : ev g' ins x = ev g ins x := by
  obtain ⟨l, hg⟩ := h.pre
  have hx1 := hx.2
  unfold GS.nodes at hx1
  rw [← ev_at (g := g') (by rw [h.inputs]; exact hl) g.gates.length (by rw [hg]; simp) hx.1 (by rw [h.inputs]; exact hx1), valsF_ext h ins _ (Nat.le_refl _)]
  rfl
theorem valsF_getD0 (g : GS) (ins : List Bool) (k : Nat) : (valsF g ins k).getD 0 false = false := by
  obtain ⟨l, e⟩ := valsF_more g ins 0 k
  rw [Nat.zero_add] at e
  rw [e]
  rfl
theorem ev_zero (g : GS) (ins : List Bool) : ev g ins 0 = false := by
  unfold ev litV valuesF
  have := valsF_getD0 g ins g.gates.length
  simp only [show ((0 : Int) / 2).toNat = 0 from rfl, this]
  rfl
theorem ev_one (g : GS) (ins : List Bool) : ev g ins 1 = true := by
  unfold ev litV valuesF
  have := valsF_getD0 g ins g.gates.length
  simp only [show ((1 : Int) / 2).toNat = 0 from rfl, this]
  rfl
theorem ev_notL (g : GS) (ins : List Bool) {x : Int} (h0 : 0 ≤ x) : ev g ins (notL x) = !ev g ins x := by
  unfold ev litV notL
  split
  · rename_i h
    rw [show ((x + 1) / 2).toNat = (x / 2).toNat by omega, show (x + 1) % 2 = 1 by omega, h]
    cases (valuesF g ins).getD (x / 2).toNat false <;> rfl
  · rename_i h
    rw [show ((x - 1) / 2).toNat = (x / 2).toNat by omega, show (x - 1) % 2 = 0 by omega, show x % 2 = 1 by omega]
    cases (valuesF g ins).getD (x / 2).toNat false <;> rfl
theorem ev_gate {g : GS} (hw : GWf g) {ins : List Bool} (hl : ins.length = g.inputs) {i : Nat} {p : Int × Int} (hi : g.gates[i]? = some p) :
    ev g ins (2 * ((1 + g.inputs + i : Nat) : Int)) = (ev g ins p.1 && ev g ins p.2) := by
  have hlt := (List.getElem?_eq_some_iff.1 hi).1
  obtain ⟨h1, h2, h3, _⟩ := hw.gate i p hi
  obtain ⟨x, y⟩ := p
  dsimp only at h1 h2 h3 ⊢
  rw [← ev_at hl (i + 1) (by omega) (by omega) (by omega), valsF_succ g ins i hi, ev_at hl i (by omega) (by omega) (by omega), ev_at hl i (by omega) (by omega) h3]
  unfold litV
  have e : (2 * ((1 + g.inputs + i : Nat) : Int) / 2).toNat = (valsF g ins i).length := by rw [valsF_length, hl]; omega
  rw [e, show (2 * ((1 + g.inputs + i : Nat) : Int)) % 2 = 0 by omega]
  rw [List.getD_eq_getElem?_getD]
  simp

theorem and_minmax (g : GS) (ins : List Bool) (x y : Int) : (ev g ins (min x y) && ev g ins (max x y)) = (ev g ins x && ev g ins y) := by
  rcases Int.le_total x y with h | h
  · rw [show min x y = x by omega, show max x y = y by omega]
  · rw [show min x y = y by omega, show max x y = x by omega, Bool.and_comm]
theorem andF_sem {g : GS} {x y : Int} (hw : GWf g) (hx : isLit g x) (hy : isLit g y) (hn : g.nodes < 65536) {ins : List Bool} (hl : ins.length = g.inputs) :
    Ext g (andF g x y).1 ∧ ev (andF g x y).1 ins (andF g x y).2 = (ev g ins x && ev g ins y) := by
  have hspec := andF_spec hx hy hn
  have hx0 := hx.1
  have hy0 := hy.1
  rw [← and_minmax]
  revert hspec
  unfold andF
  split
  · rename_i h
    intro _
    refine ⟨Ext.refl _, ?_⟩
    dsimp only
    rw [ev_zero]
    rcases h with h | h
    · rw [h, ev_zero]; rfl
    · rw [h, ev_notL _ _ (by omega)]; cases ev g ins (max x y) <;> rfl
  split
  · rename_i h
    intro _
    refine ⟨Ext.refl _, ?_⟩
    dsimp only
    rcases h with h | h
    · rw [h, ev_one]; rfl
    · rw [h, Bool.and_self]
  split
  · rename_i i hi
    intro _
    refine ⟨Ext.refl _, ?_⟩
    obtain ⟨hlt, he, _⟩ := List.findIdx?_eq_some_iff_getElem.1 hi
    have e : g.gates[i]? = some (min x y, max x y) := by
      rw [List.getElem?_eq_getElem hlt]
      simpa using he
    exact ev_gate hw hl e
  · intro hspec
    have hE : Ext g { g with gates := g.gates ++ [(min x y, max x y)] } := ⟨rfl, _, rfl⟩
    refine ⟨hE, ?_⟩
    have hw' := hspec.1.wf hw
    have hi : ({ g with gates := g.gates ++ [(min x y, max x y)] } : GS).gates[g.gates.length]? = some (min x y, max x y) := by simp
    have h := ev_gate hw' (ins := ins) hl hi
    have hx1 := hx.2
    have hy1 := hy.2
    have hmin : isLit g (min x y) := ⟨by omega, by omega⟩
    have hmax : isLit g (max x y) := ⟨by omega, by omega⟩
    dsimp only at h ⊢
    rw [ev_ext hE hl hmin, ev_ext hE hl hmax] at h
    exact h

/-- What an operation of the builder does: the circuit grows, and the result has a value. -/
structure Op1 (k : Nat) (g : GS) (r : GS × Int) (ins : List Bool) (b : Bool) : Prop where
  grew : Grew k g r.1
  lit : isLit r.1 r.2
  ext : Ext g r.1
  val : ev r.1 ins r.2 = b
theorem and_op {g : GS} {x y : Int} (hw : GWf g) (hx : isLit g x) (hy : isLit g y) (hn : g.nodes < 65536) {ins : List Bool} (hl : ins.length = g.inputs) : Op1 1 g (andF g x y) ins (ev g ins x && ev g ins y) :=
  ⟨(andF_spec hx hy hn).1, (andF_spec hx hy hn).2, (andF_sem hw hx hy hn hl).1, (andF_sem hw hx hy hn hl).2⟩
theorem or_op {g : GS} {x y : Int} (hw : GWf g) (hx : isLit g x) (hy : isLit g y) (hn : g.nodes < 65536) {ins : List Bool} (hl : ins.length = g.inputs) : Op1 1 g (orF g x y) ins (ev g ins x || ev g ins y) := by
  have h := and_op hw hx.notL hy.notL hn hl
  refine ⟨h.grew, h.lit.notL, h.ext, ?_⟩
  show ev (andF g (notL x) (notL y)).1 ins (notL (andF g (notL x) (notL y)).2) = _
  rw [ev_notL _ _ h.lit.1]
  have := h.val
  rw [ev_notL _ _ hx.1, ev_notL _ _ hy.1] at this
  rw [this]
  cases ev g ins x <;> cases ev g ins y <;> rfl
theorem Op1.len {k : Nat} {g : GS} {r : GS × Int} {ins : List Bool} {b : Bool} (h : Op1 k g r ins b) (hl : ins.length = g.inputs) : ins.length = r.1.inputs := hl.trans h.ext.inputs.symm
theorem xor_op {g : GS} {x y : Int} (hw : GWf g) (hx : isLit g x) (hy : isLit g y) (hn : g.nodes + 2 < 65536) {ins : List Bool} (hl : ins.length = g.inputs) : Op1 3 g (xorF g x y) ins (ev g ins x != ev g ins y) := by
  have h1 := and_op hw hx hy.notL (by omega) hl
  have n1 := h1.grew.nodes
  have h2 := and_op (h1.grew.wf hw) (h1.grew.lit hx.notL) (h1.grew.lit hy) (by omega) (h1.len hl)
  have n2 := h2.grew.nodes
  have h3 := or_op (h2.grew.wf (h1.grew.wf hw)) (h2.grew.lit h1.lit) h2.lit (by omega) (h2.len (h1.len hl))
  refine ⟨(h1.grew.trans h2.grew).trans h3.grew, h3.lit, (h1.ext.trans h2.ext).trans h3.ext, ?_⟩
  refine h3.val.trans ?_
  rw [ev_ext h2.ext (h1.len hl) h1.lit, h1.val, h2.val, ev_ext h1.ext hl hx.notL, ev_ext h1.ext hl hy, ev_notL _ _ hx.1, ev_notL _ _ hy.1]
  cases ev g ins x <;> cases ev g ins y <;> rfl
theorem mux_op {g : GS} {c x y : Int} (hw : GWf g) (hc : isLit g c) (hx : isLit g x) (hy : isLit g y) (hn : g.nodes + 2 < 65536) {ins : List Bool} (hl : ins.length = g.inputs) : Op1 3 g (muxF g c x y) ins (if ev g ins c then ev g ins x else ev g ins y) := by
  have h1 := and_op hw hc hx (by omega) hl
  have n1 := h1.grew.nodes
  have h2 := and_op (h1.grew.wf hw) (h1.grew.lit hc.notL) (h1.grew.lit hy) (by omega) (h1.len hl)
  have n2 := h2.grew.nodes
  have h3 := or_op (h2.grew.wf (h1.grew.wf hw)) (h2.grew.lit h1.lit) h2.lit (by omega) (h2.len (h1.len hl))
  refine ⟨(h1.grew.trans h2.grew).trans h3.grew, h3.lit, (h1.ext.trans h2.ext).trans h3.ext, ?_⟩
  refine h3.val.trans ?_
  rw [ev_ext h2.ext (h1.len hl) h1.lit, h1.val, h2.val, ev_ext h1.ext hl hc.notL, ev_ext h1.ext hl hy, ev_notL _ _ hc.1]
  cases ev g ins c <;> cases ev g ins x <;> cases ev g ins y <;> rfl

/-- The bits of a word. -/
def evs (g : GS) (ins : List Bool) (xs : List Int) : List Bool := xs.map (ev g ins)
theorem evs_length (g : GS) (ins : List Bool) (xs : List Int) : (evs g ins xs).length = xs.length := by simp [evs]
theorem evs_ext {g g' : GS} (h : Ext g g') {ins : List Bool} (hl : ins.length = g.inputs) {xs : List Int} (hx : areLit g xs) : evs g' ins xs = evs g ins xs :=
  List.map_congr_left fun x hm => ev_ext h hl (hx x hm)
theorem evs_append (g : GS) (ins : List Bool) (xs ys : List Int) : evs g ins (xs ++ ys) = evs g ins xs ++ evs g ins ys := by simp [evs]
theorem evs_getD {g : GS} {ins : List Bool} {xs : List Int} {k : Nat} (hk : k < xs.length) : (evs g ins xs)[k]? = some (ev g ins (xs.getD k 0)) := by
  have e : xs[k]? = some xs[k] := List.getElem?_eq_getElem hk
  rw [evs, List.getElem?_map, e, List.getD_eq_getElem?_getD, e]; rfl
theorem evs_notL {g : GS} {ins : List Bool} {xs : List Int} (hx : areLit g xs) : evs g ins (xs.map notL) = (evs g ins xs).map (!·) := by
  simp only [evs, List.map_map]
  exact List.map_congr_left fun x hm => ev_notL g ins (hx x hm).1
theorem evs_bits (g : GS) (ins : List Bool) (n : Nat) (m : Int) : evs g ins (bitsI n m) = bitsOf m n := by
  simp only [evs, bitsI, bitsOf, List.map_map]
  refine List.map_congr_left fun k _ => ?_
  have h : (m / 2 ^ k) % 2 = 0 ∨ (m / 2 ^ k) % 2 = 1 := by omega
  show ev g ins ((m / 2 ^ k) % 2) = _
  rcases h with h | h <;> rw [h]
  · exact ev_zero g ins
  · exact ev_one g ins

/-- What an operation on words does. -/
structure OpW (k : Nat) (g g' : GS) (out : List Int) (n : Nat) : Prop where
  grew : Grew k g g'
  lits : areLit g' out
  ext : Ext g g'
  len : out.length = n

theorem b01_not (b : Bool) : b01 (!b) = 1 - b01 b := by cases b <;> rfl
theorem valU_not : ∀ l : List Bool, valU (l.map (!·)) = 2 ^ l.length - 1 - valU l
  | [] => rfl
  | b :: l => by
    simp only [List.map_cons, valU, valU_not l, b01_not, List.length_cons, Int.pow_succ]
    omega

/-- Adding: the bits so far and the literal that is carried. -/
theorem sumK_sem {g : GS} {xs ys : List Int} {c : Int} (hw : GWf g) (hx : areLit g xs) (hy : areLit g ys) (hc : isLit g c) {ins : List Bool} (hl : ins.length = g.inputs) (hxy : xs.length ≤ ys.length) :
    ∀ k : Nat, k ≤ xs.length → g.nodes + 9 * k ≤ 65536 →
      Ext g (sumK g xs ys c k).g ∧ valU (evs (sumK g xs ys c k).g ins (sumK g xs ys c k).out) + 2 ^ k * b01 (ev (sumK g xs ys c k).g ins (sumK g xs ys c k).c) = valU ((evs g ins xs).take k) + valU ((evs g ins ys).take k) + b01 (ev g ins c)
  | 0, _, _ => ⟨Ext.refl _, by simp [sumK, evs, valU]⟩
  | k + 1, hk, hn => by
    obtain ⟨hE, ih⟩ := sumK_sem hw hx hy hc hl hxy k (by omega) (by omega)
    obtain ⟨h1, h2, h3⟩ := sumK_spec hx hy hc k (by omega)
    have n1 := h1.nodes
    have hlen := sumK_length g xs ys c k
    obtain ⟨s, hs⟩ : ∃ s, sumK g xs ys c k = s := ⟨_, rfl⟩
    rw [hs] at hE ih h1 h2 h3 n1 hlen
    rw [sumK, hs]
    have lx : isLit s.g (xs.getD k 0) := h1.lit (hx.getD k)
    have ly : isLit s.g (ys.getD k 0) := h1.lit (hy.getD k)
    have hwS := h1.wf hw
    have hlS : ins.length = s.g.inputs := hl.trans hE.inputs.symm
    have o1 := xor_op hwS lx ly (by omega) hlS
    have m1 := o1.grew.nodes
    have o2 := xor_op (o1.grew.wf hwS) o1.lit (o1.grew.lit h3) (by omega) (o1.len hlS)
    have m2 := o2.grew.nodes
    have o3 := and_op (o2.grew.wf (o1.grew.wf hwS)) (o2.grew.lit (o1.grew.lit lx)) (o2.grew.lit (o1.grew.lit ly)) (by omega) (o2.len (o1.len hlS))
    have m3 := o3.grew.nodes
    have o4 := and_op (o3.grew.wf (o2.grew.wf (o1.grew.wf hwS))) (o3.grew.lit (o2.grew.lit o1.lit)) (o3.grew.lit (o2.grew.lit (o1.grew.lit h3))) (by omega) (o3.len (o2.len (o1.len hlS)))
    have m4 := o4.grew.nodes
    have o5 := or_op (o4.grew.wf (o3.grew.wf (o2.grew.wf (o1.grew.wf hwS)))) (o4.grew.lit o3.lit) o4.lit (by omega) (o4.len (o3.len (o2.len (o1.len hlS))))
    have l1 := o1.len hlS
    have l2 := o2.len l1
    have l3 := o3.len l2
    have l4 := o4.len l3
    have e25 : Ext (xorF (xorF s.g (xs.getD k 0) (ys.getD k 0)).1 (xorF s.g (xs.getD k 0) (ys.getD k 0)).2 s.c).1 (sumStep s (xs.getD k 0) (ys.getD k 0)).g := (o3.ext.trans o4.ext).trans o5.ext
    have e05 : Ext s.g (sumStep s (xs.getD k 0) (ys.getD k 0)).g := (o1.ext.trans o2.ext).trans e25
    refine ⟨hE.trans e05, ?_⟩
    have vout : evs (sumStep s (xs.getD k 0) (ys.getD k 0)).g ins (sumStep s (xs.getD k 0) (ys.getD k 0)).out = evs s.g ins s.out ++ [(ev s.g ins (xs.getD k 0) != ev s.g ins (ys.getD k 0)) != ev s.g ins s.c] := by
      show evs _ ins (s.out ++ [_]) = _
      rw [evs_append, evs_ext e05 hlS h2]
      congr 1
      show [ev _ ins _] = _
      rw [ev_ext e25 l2 o2.lit, o2.val, o1.val, ev_ext o1.ext hlS h3]
    have vc : ev (sumStep s (xs.getD k 0) (ys.getD k 0)).g ins (sumStep s (xs.getD k 0) (ys.getD k 0)).c = ((ev s.g ins (xs.getD k 0) && ev s.g ins (ys.getD k 0)) || ((ev s.g ins (xs.getD k 0) != ev s.g ins (ys.getD k 0)) && ev s.g ins s.c)) := by
      refine o5.val.trans ?_
      rw [ev_ext o4.ext l3 o3.lit, o3.val, o4.val, ev_ext (o1.ext.trans o2.ext) hlS lx, ev_ext (o1.ext.trans o2.ext) hlS ly, ev_ext (o2.ext.trans o3.ext) l1 o1.lit, o1.val, ev_ext ((o1.ext.trans o2.ext).trans o3.ext) hlS h3]
    rw [vout, vc, valU_snoc, evs_length, hlen]
    have tx : (evs g ins xs).take (k + 1) = (evs g ins xs).take k ++ [ev g ins (xs.getD k 0)] := by rw [List.take_add_one, evs_getD (by omega)]; rfl
    have ty : (evs g ins ys).take (k + 1) = (evs g ins ys).take k ++ [ev g ins (ys.getD k 0)] := by rw [List.take_add_one, evs_getD (by omega)]; rfl
    have lx' : ((evs g ins xs).take k).length = k := by rw [List.length_take, evs_length]; omega
    have ly' : ((evs g ins ys).take k).length = k := by rw [List.length_take, evs_length]; omega
    rw [tx, ty, valU_snoc, valU_snoc, lx', ly', Int.pow_succ]
    rw [ev_ext hE hl (hx.getD k), ev_ext hE hl (hy.getD k)]
    generalize (2 : Int) ^ k = P at ih ⊢
    generalize hcv : ev s.g ins s.c = cv at ih ⊢
    generalize ev g ins (xs.getD k 0) = a
    generalize ev g ins (ys.getD k 0) = b
    cases a <;> cases b <;> cases cv <;> simp [b01] at ih ⊢ <;> omega
end Go.Proofs.Ytgmcajojigedaaa
