/- What the words of BlastOperators stand for: plain laws, no program. The words, the bits and the operators' steps of BlastOperators. -/
import Derived.Test.YtgmcajojigedaaaHa
set_option linter.unusedSimpArgs false
set_option linter.unusedVariables false
namespace Go.Proofs.Ytgmcajojigedaaa

theorem OpW.gx {k n : Nat} {g g' : GS} {out : List Int} (o : OpW k g g' out n) : Gx k g g' := ⟨o.grew, o.ext⟩
/-- A word of q literals that stands for v. -/
structure Okv (q : Nat) (ins : List Bool) (g : GS) (ws : List Int) (v : Int) : Prop where
  lits : areLit g ws
  len : ws.length = q
  val : valueF 0 (evs g ins ws) = v
theorem Okv.gx {q k : Nat} {ins : List Bool} {g g' : GS} {ws : List Int} {v : Int} (h : Okv q ins g ws v) (x : Gx k g g') (s : Sv ins g) : Okv q ins g' ws v :=
  ⟨x.grew.lits h.lits, h.len, by rw [evs_ext x.ext s.len h.lits]; exact h.val⟩
theorem okv_of {q : Nat} {ins : List Bool} {g : GS} {ws : List Int} {m : Int} (h2 : 2 ≤ q) (h8 : q ≤ 8) (h1 : areLit g ws) (hl : ws.length = q) (hv : valU (evs g ins ws) = m % 2 ^ q) : Okv q ins g ws (wrapW q m) :=
  ⟨h1, hl, valueF_wrap (by omega) (by omega) (by rw [evs_length, hl]; simp) (by simpa using hv)⟩

def opsG (q : Nat) : GS := ⟨2 * q + 1, []⟩
theorem opsG_wf {q : Nat} (h8 : q ≤ 8) : GWf (opsG q) := ⟨by unfold opsG; dsimp only; omega, by unfold opsG GS.nodes; simp; omega, fun i p h => by simp [opsG] at h, by simp [opsG]⟩
def opsL (q : Nat) : Int := 2 * ((2 * q + 1 : Nat) : Int)
def opsIns (q : Nat) (x y : Int) (c : Bool) : List Bool := bitsOf x q ++ bitsOf y q ++ [c]
theorem opsIns_length (q : Nat) (x y : Int) (c : Bool) : (opsIns q x y c).length = 2 * q + 1 := by simp [opsIns, bitsOf_length]; omega
theorem wd_input {g : GS} {ins : List Bool} {p q : Nat} {bs : List Bool} (hl : ins.length = g.inputs) (h : p + q ≤ g.inputs) (hb : bs.length = q) (hv : ∀ j, j < q → ins.getD (p + j) false = bs.getD j false) : Wd g ins (wordN p q) q bs := by
  refine ⟨fun z hz => ?_, wordN_length _ _, List.ext_getElem (by rw [evs_length, wordN_length, hb]) fun j h1 h2 => ?_⟩
  · simp only [wordN, List.mem_map, List.mem_range] at hz
    obtain ⟨j, hj, rfl⟩ := hz
    unfold isLit GS.nodes
    omega
  · rw [evs_length, wordN_length] at h1
    have e : (evs g ins (wordN p q))[j]'(by rw [evs_length, wordN_length]; exact h1) = ev g ins (2 * ((p + j + 1 : Nat) : Int)) := by simp [evs, wordN]
    rw [e, ev_input hl (by omega), hv j h1, List.getD_eq_getElem?_getD, List.getElem?_eq_getElem h2]; rfl
theorem valS_bits {q : Nat} {x : Int} (h : inW q x) : valS (bitsOf x q) = x := by
  have h1 := h.1
  have h2 := h.2.1
  have := valueF_bitsOf h
  rw [valueF_valS (by rw [bitsOf_length]; omega) (by rw [bitsOf_length]; omega)] at this
  simpa using this
theorem wrapW_zero (a : Int) : wrapW a 0 = 0 := by
  by_cases h : 2 ≤ a ∧ a ≤ 8
  · obtain ⟨h1, h2⟩ := h
    rcases width_cases h1 h2 with rfl | rfl | rfl | rfl | rfl | rfl | rfl <;> (unfold wrapW; simp [Int.bmod])
  · exact if_neg h
theorem tmod_in {a x y : Int} (h : inW a x) : inW a (x.tmod y) := by
  obtain ⟨h1, h2, h3, h4⟩ := h
  refine ⟨h1, h2, ?_, ?_⟩
  · have e : (x.tmod y).natAbs ≤ x.natAbs := by rw [Int.natAbs_tmod]; exact Nat.mod_le _ _
    rcases Int.lt_or_le x 0 with hx | hx
    · omega
    · have := Int.tmod_nonneg y hx; have := pow_pos2 (a.toNat - 1); omega
  · have e : (x.tmod y).natAbs ≤ x.natAbs := by rw [Int.natAbs_tmod]; exact Nat.mod_le _ _
    rcases Int.lt_or_le x 0 with hx | hx
    · have h5 := Int.tmod_nonneg y (show 0 ≤ -x by omega)
      rw [Int.neg_tmod] at h5
      have := pow_pos2 (a.toNat - 1)
      omega
    · omega
theorem quoW_in {a x y : Int} (hx : inW a x) (hy : inW a y) : quoW a x y = wrapW a (if y = 0 then 0 else x.tdiv y) := by
  unfold quoW
  rw [wrapW_of_in hx, wrapW_of_in hy]
  split
  · rw [wrapW_zero]
  · rfl
theorem remW_in {a x y : Int} (hx : inW a x) (hy : inW a y) : remW a x y = wrapW a (if y = 0 then x else x.tmod y) := by
  unfold remW
  rw [wrapW_of_in hx, wrapW_of_in hy]
  split
  · rw [wrapW_of_in hx]
  · rw [wrapW_of_in (tmod_in hx)]

/-- What the words of the law stand for. -/
structure OpsOk (q : Nat) (x y : Int) (c : Bool) (d : DivS) (n s b m ch : ChS) (e l : LitS) : Prop where
  wf : GWf ch.g
  inp : ch.g.inputs = 2 * q + 1
  oq : Okv q (opsIns q x y c) ch.g d.q (quoW q x y)
  or : Okv q (opsIns q x y c) ch.g d.r (remW q x y)
  on : Okv q (opsIns q x y c) ch.g n.out (wrapW q (-x))
  os : Okv q (opsIns q x y c) ch.g s.out (wrapW q (x + y))
  ob : Okv q (opsIns q x y c) ch.g b.out (wrapW q (x - y))
  om : Okv q (opsIns q x y c) ch.g m.out (wrapW q (x * y))
  oc : Okv q (opsIns q x y c) ch.g ch.out (if c then x else y)
  lwf : GWf l.g
  linp : l.g.inputs = 2 * q + 1
  le : isLit l.g e.x
  ll : isLit l.g l.x
  ve : ev l.g (opsIns q x y c) e.x = decide (x = y)
  vl : ev l.g (opsIns q x y c) l.x = decide (x < y)
theorem ops_sem {q : Nat} {x y : Int} {c : Bool} (h2 : 2 ≤ q) (h8 : q ≤ 8) (hx : inW q x) (hy : inW q y) {d : DivS} {n s b m ch : ChS} {e l : LitS}
    (hd : divideF (opsG q) (wordN 0 q) (wordN q q) = d) (hn : negF d.g (wordN 0 q) = n) (hs : addF n.g (wordN 0 q) (wordN q q) = s) (hb : subF s.g (wordN 0 q) (wordN q q) = b) (hm : mulF b.g (wordN 0 q) (wordN q q) = m)
    (hc : chooseF2 m.g (opsL q) (wordN 0 q) (wordN q q) = ch) (he : equalF ch.g (wordN 0 q) (wordN q q) = e) (hl : lessF e.g (wordN 0 q) (wordN q q) = l) : OpsOk q x y c d n s b m ch e l := by
  obtain ⟨ins, hins⟩ : ∃ ins, opsIns q x y c = ins := ⟨_, rfl⟩
  have hlen : ins.length = (opsG q).inputs := by rw [← hins, opsIns_length]; rfl
  have S0 : Sv ins (opsG q) := ⟨opsG_wf h8, hlen⟩
  have hn0 : (opsG q).nodes ≤ 18 := by unfold opsG GS.nodes; simp; omega
  have X : Wd (opsG q) ins (wordN 0 q) q (bitsOf x q) := wd_input hlen (by unfold opsG; dsimp only; omega) (bitsOf_length _ _) fun j hj => by
    rw [← hins, opsIns, List.getD_eq_getElem?_getD, List.getD_eq_getElem?_getD, List.getElem?_append_left (by simp [bitsOf_length]; omega), List.getElem?_append_left (by rw [bitsOf_length]; omega), Nat.zero_add]
  have Y : Wd (opsG q) ins (wordN q q) q (bitsOf y q) := wd_input hlen (by unfold opsG; dsimp only; omega) (bitsOf_length _ _) fun j hj => by
    rw [← hins, opsIns, List.getD_eq_getElem?_getD, List.getD_eq_getElem?_getD, List.getElem?_append_left (by simp [bitsOf_length]; omega), List.getElem?_append_right (by rw [bitsOf_length]; omega), bitsOf_length, Nat.add_sub_cancel_left]
  have lL : isLit (opsG q) (opsL q) := by unfold isLit opsL opsG GS.nodes; simp; omega
  have vL : ev (opsG q) ins (opsL q) = c := by
    show ev (opsG q) ins (2 * ((2 * q + 1 : Nat) : Int)) = c
    rw [ev_input hlen (by unfold opsG; dsimp only; omega), ← hins, opsIns, List.getD_eq_getElem?_getD, List.getElem?_append_right (by simp [bitsOf_length]; omega)]
    rw [List.length_append, bitsOf_length, bitsOf_length, show 2 * q - (q + q) = 0 by omega]
    rfl
  have sx := valS_bits hx
  have sy := valS_bits hy
  have ux : valU (bitsOf x q) = x % 2 ^ q := valU_bitsOf x q
  have uy : valU (bitsOf y q) = y % 2 ^ q := valU_bitsOf y q
  obtain ⟨qs, rs, GD, WQ, WR, vq, vr⟩ := divide_sem S0 X Y (by omega) h8 (by omega)
  rw [sx, sy] at vq vr
  rw [hd] at GD WQ WR
  have S1 := S0.gx GD
  have n1 := GD.grew.nodes
  have X1 := X.gx GD S0
  have Y1 := Y.gx GD S0
  obtain ⟨on, vn⟩ := neg_op S1.wf X1.lits S1.len X1.len (by omega) h8 (by omega)
  rw [hn] at on vn
  have S2 := S1.gx on.gx
  have G2 := GD.trans on.gx
  have n2 := G2.grew.nodes
  have X2 := X.gx G2 S0
  have Y2 := Y.gx G2 S0
  obtain ⟨os, vs⟩ := add_op S2.wf X2.lits Y2.lits S2.len X2.len Y2.len (by omega) h8 (by omega)
  rw [hs] at os vs
  have S3 := S2.gx os.gx
  have G3 := G2.trans os.gx
  have n3 := G3.grew.nodes
  have X3 := X.gx G3 S0
  have Y3 := Y.gx G3 S0
  obtain ⟨ob, vb⟩ := sub_op S3.wf X3.lits Y3.lits S3.len X3.len Y3.len (by omega) h8 (by omega)
  rw [hb] at ob vb
  have S4 := S3.gx ob.gx
  have G4 := G3.trans ob.gx
  have n4 := G4.grew.nodes
  have X4 := X.gx G4 S0
  have Y4 := Y.gx G4 S0
  obtain ⟨om, vm⟩ := mul_op S4.wf X4.lits Y4.lits S4.len X4.len Y4.len (by omega) h8 (by omega)
  rw [hm] at om vm
  have S5 := S4.gx om.gx
  have G5 := G4.trans om.gx
  have n5 := G5.grew.nodes
  have X5 := X.gx G5 S0
  have Y5 := Y.gx G5 S0
  have hc' : chooseF m.g (opsL q) (wordN 0 q) (wordN q q) = ch := by rw [← hc]; exact (if_pos ⟨by rw [wordN_length]; omega, by rw [wordN_length]; omega, by rw [wordN_length, wordN_length]⟩).symm
  obtain ⟨oc, vc⟩ := choose_op S5.wf (G5.grew.lit lL) X5.lits Y5.lits S5.len X5.len Y5.len (by omega) (by omega)
  rw [hc'] at oc vc
  have S6 := S5.gx oc.gx
  have G6 := G5.trans oc.gx
  have n6 := G6.grew.nodes
  have X6 := X.gx G6 S0
  have Y6 := Y.gx G6 S0
  have oe := equal_op S6.wf X6.lits Y6.lits S6.len X6.len Y6.len (by omega) h8 (by omega)
  rw [X6.val, Y6.val, he] at oe
  have GE : Gx 36 ch.g e.g := ⟨oe.grew, oe.ext⟩
  have S7 := S6.gx GE
  have G7 := G6.trans GE
  have n7 := G7.grew.nodes
  have X7 := X.gx G7 S0
  have Y7 := Y.gx G7 S0
  have ol := less_op S7.wf X7.lits Y7.lits S7.len X7.len Y7.len (by omega) h8 (by omega)
  rw [X7.val, Y7.val, sx, sy, hl] at ol
  have GL : Gx 48 e.g l.g := ⟨ol.grew, ol.ext⟩
  have S8 := S7.gx GL
  have wx : ∀ {g : GS}, Wd g ins (wordN 0 q) q (bitsOf x q) → valU (evs g ins (wordN 0 q)) = x % 2 ^ q := fun h => by rw [h.val, ux]
  have wy : ∀ {g : GS}, Wd g ins (wordN q q) q (bitsOf y q) → valU (evs g ins (wordN q q)) = y % 2 ^ q := fun h => by rw [h.val, uy]
  rw [wx X1] at vn
  rw [wx X2, wy Y2] at vs
  rw [wx X3, wy Y3] at vb
  rw [wx X4, wy Y4] at vm
  have vn' : valU (evs n.g ins n.out) = (-x) % 2 ^ q := by rw [vn, ← Int.zero_sub, Int.sub_emod_emod, Int.zero_sub]
  have vs' : valU (evs s.g ins s.out) = (x + y) % 2 ^ q := by rw [vs, Int.emod_add_emod, Int.add_emod_emod]
  have vb' : valU (evs b.g ins b.out) = (x - y) % 2 ^ q := by rw [vb, Int.emod_sub_emod, Int.sub_emod_emod]
  have vm' : valU (evs m.g ins m.out) = (x * y) % 2 ^ q := by rw [vm, ← Int.mul_emod]
  have GB := ob.gx
  have hcx : evs ch.g ins ch.out = if c then bitsOf x q else bitsOf y q := by rw [vc, ev_ext G5.ext S0.len lL, vL, X5.val, Y5.val]
  have R1 := on.gx.trans (os.gx.trans (ob.gx.trans (om.gx.trans oc.gx)))
  refine ⟨S6.wf, by rw [G6.ext.inputs]; rfl, ?_, ?_, ?_, ?_, ?_, ?_, ?_, S8.wf, by rw [(G7.trans GL).ext.inputs]; rfl, GL.grew.lit oe.lit, ol.lit, ?_, ?_⟩
  all_goals rw [hins]
  · rw [quoW_in hx hy]
    exact (okv_of h2 h8 WQ.lits WQ.len (by rw [WQ.val, vq])).gx R1 S1
  · rw [remW_in hx hy]
    exact (okv_of h2 h8 WR.lits WR.len (by rw [WR.val, vr])).gx R1 S1
  · exact (okv_of h2 h8 on.lits on.len vn').gx (os.gx.trans (ob.gx.trans (om.gx.trans oc.gx))) S2
  · exact (okv_of h2 h8 os.lits os.len vs').gx (ob.gx.trans (om.gx.trans oc.gx)) S3
  · exact (okv_of h2 h8 ob.lits ob.len vb').gx (om.gx.trans oc.gx) S4
  · exact (okv_of h2 h8 om.lits om.len vm').gx oc.gx S5
  · refine ⟨oc.lits, oc.len, ?_⟩
    rw [hcx]
    cases c
    · have := valueF_bitsOf hy; simpa using this
    · have := valueF_bitsOf hx; simpa using this
  · rw [ev_ext GL.ext S7.len oe.lit]
    refine oe.val.trans ?_
    rw [ux, uy]
    rw [Bool.eq_iff_iff, decide_eq_true_eq, decide_eq_true_eq]
    refine ⟨fun h => ?_, fun h => by rw [h]⟩
    have e1 := wrapW_of_in hx
    have e2 := wrapW_of_in hy
    unfold wrapW at e1 e2
    rw [if_pos ⟨by omega, by omega⟩] at e1 e2
    rw [← e1, ← e2]
    rw [Int.bmod_def, Int.bmod_def]
    simp only [Int.toNat_natCast] at *
    have h' : x % ((2 ^ q : Nat) : Int) = y % ((2 ^ q : Nat) : Int) := by simpa using h
    rw [h']
  · exact ol.val
end Go.Proofs.Ytgmcajojigedaaa
namespace Go.Proofs.Ytgmcajojigedaaa
open Go.RowKit

theorem ops_fits {q : Nat} (h2 : 2 ≤ q) (h8 : q ≤ 8) : fitsP (q : Int) [0, 0, 1] := ⟨by omega, by omega, by simp, by intro s hs; simp at hs; rcases hs with rfl | rfl <;> simp [isSort]⟩
theorem words_ops (q N : Nat) (h2 : 2 ≤ q) (h8 : q ≤ 8) (hN : Hid (N = 2 * q + 1)) (w : World) (B0 : Nat) (A : Option Addr) (hB : B0 ≤ w.heap.size) (hs : SlI w B0 A 3 [0, 0, 1]) :
    Calls Try.prog 29 #[.int .i64 q, .slice A 3 3] w fun e w' => ∃ A c, e = .returned (.tuple #[.slice A 3 c, .int .i64 N, .int .i64 0]) ∧ SlW w' B0 A c [wordN 0 q, wordN q q, [opsL q]] ∧ Below w.heap.size w w' := by
  refine (words_yes (q : Int) [0, 0, 1] A 3 B0 w hB (ops_fits h2 h8) hs).mono ?_
  rintro e w' ⟨A', c', rfl, h1, h2⟩
  have e1 : wordsF (q : Int) [0, 0, 1] ([0, 0, 1] : List Int).length = [wordN 0 q, wordN q q, [opsL q]] := by
    simp [wordsF, List.range_succ, posN, szN, sizeF, wordN, opsL]; omega
  have e2 : posN (q : Int) [0, 0, 1] ([0, 0, 1] : List Int).length = N := by rw [hN.out]; simp [posN, szN, sizeF]; omega
  rw [e1] at h1 ⊢
  rw [e2]
  exact ⟨A', c', rfl, h1, h2⟩
theorem b01_bits (c : Bool) : bitsOf (b01 c) 1 = [c] := by cases c <;> rfl
theorem bits_ops (q N : Nat) (h2 : 2 ≤ q) (h8 : q ≤ 8) (hN : Hid (N = 2 * q + 1)) (x y cv : Int) (c : Bool) (hx : wrapW q x = x) (hy : wrapW q y = y) (hc : cv = b01 c) (w : World) (B0 : Nat) (A A' : Option Addr) (k : Nat) (hB : B0 ≤ w.heap.size) (hs : SlI w B0 A k [0, 0, 1]) (hs' : SlI w B0 A' 3 [x, y, cv]) :
    Calls Try.prog 26 #[.int .i64 q, .slice A 3 k, .slice A' 3 3] w fun e w' => ∃ A c', e = .returned (.tuple #[.slice A N c', .int .i64 0]) ∧ SlB w' B0 A c' (opsIns q x y c) ∧ Below w.heap.size w w' := by
  refine (bits_yes (q : Int) [0, 0, 1] [x, y, cv] A A' k 3 B0 w hB (ops_fits h2 h8) rfl hs hs').mono ?_
  rintro e w' (⟨_, v, rfl, h1, h2⟩ | ⟨h, _⟩)
  · have e1 : bitsF (q : Int) [0, 0, 1] [x, y, cv] ([0, 0, 1] : List Int).length = opsIns q x y c := by
      simp [bitsF, List.range_succ, szN, sizeF, opsIns, hc, b01_bits]
    rw [e1] at h1
    obtain ⟨A, c', rfl, hs⟩ := h1.sl B0
    exact ⟨A, c', by rw [opsIns_length, hN.out], hs, h2⟩
  · refine absurd (fun j a b hj ha hb => ?_) h
    match j with
    | 0 => simp at ha hb; subst ha hb; exact .inl ⟨rfl, hx⟩
    | 1 => simp at ha hb; subst ha hb; exact .inl ⟨rfl, hy⟩
    | 2 => simp at ha hb; subst ha hb; exact .inr ⟨rfl, by rw [hc]; cases c <;> simp [b01]⟩
    | j + 3 => simp at hj; omega
theorem three_new (w : World) (B0 : Nat) (a b c : Int) : SlI (w.alloc (.cells #[.int .i64 a, .int .i64 b, .int .i64 c] 3)) B0 (some ⟨w.heap.size, 0, none⟩) 3 [a, b, c] :=
  sl_new (Value.int .i64) 3 w B0 [a, b, c] (by simp)
theorem two_newI (w : World) (B0 : Nat) (a b : Int) : SlI (w.alloc (.cells #[.int .i64 a, .int .i64 b] 3)) B0 (some ⟨w.heap.size, 0, none⟩) 2 [a, b] :=
  sl_new (Value.int .i64) 3 w B0 [a, b] (by simp)

/-- The cells of the law's words. -/
def CF (b o : Nat) (A0 A1 : Option Addr) (c0 c1 c2 q b3 o3 : Nat) (L : Int) (w : World) : Prop :=
  w.cell? ⟨b, o, none⟩ = some (.slice A0 q c0) ∧ w.cell? ⟨b, o + 1, none⟩ = some (.slice A1 q c1) ∧ w.cell? ⟨b, o + 2, none⟩ = some (.slice (some ⟨b3, o3, none⟩) 1 c2) ∧ w.cell? ⟨b3, o3, none⟩ = some (.int .i64 L)
theorem cf_open {w : World} {B0 : Nat} {A : Option Addr} {c q : Nat} {L : Int} (h : SlW w B0 A c [wordN 0 q, wordN q q, [L]]) :
    ∃ b o A0 A1 c0 c1 c2 b3 o3, A = some ⟨b, o, none⟩ ∧ SlI w B0 A0 c0 (wordN 0 q) ∧ SlI w B0 A1 c1 (wordN q q) ∧ ∀ (ts ms : List Nat) (w' : World), Fr B0 ts ms w w' → 24 ∉ ts → 3 ∉ ts → CF b o A0 A1 c0 c1 c2 q b3 o3 L w' := by
  obtain ⟨b, o, x, A0, c0, hA, hx, hc0, hs0⟩ := h.at_ (k := 0) (by simp)
  obtain ⟨b', o', x', A1, c1, hA', hx', hc1, hs1⟩ := h.at_ (k := 1) (by simp)
  obtain ⟨b'', o'', x'', A2, c2, hA'', hx'', hc2, hs2⟩ := h.at_ (k := 2) (by simp)
  subst hA
  cases hA'
  cases hA''
  simp at hx hx' hx''
  subst hx hx' hx''
  rw [wordN_length] at hc0 hc1
  obtain ⟨b3, o3, y, rfl, hy, hc3⟩ := hs2.at_ (k := 0) (by simp)
  simp at hy
  subst hy
  refine ⟨b, o, A0, A1, c0, c1, c2, b3, o3, rfl, hs0, hs1, fun ts ms w' hf h24 h3 => ⟨?_, ?_, ?_, ?_⟩⟩
  · exact h.cell_fr hf h24 (k := 0) (by simp) hc0
  · exact h.cell_fr hf h24 (k := 1) (by simp) hc1
  · exact h.cell_fr hf h24 (k := 2) (by simp) hc2
  · exact (hs2.fr hf h3).cell (k := 0) (by simp)
theorem geval_n {g : GS} {A A1 A' : Option Addr} {c c1 c' n1 n2 B0 : Nat} {ins : List Bool} {xs : List Int} {w : World} (e1 : ins.length = n1) (e2 : xs.length = n2) (hB : B0 ≤ w.heap.size) (hw : GWf g) (hc : CirIn w A c g) (hins : SlB w B0 A1 c1 ins) (hlen : ins.length = g.inputs)
    (hs : SlI w B0 A' c' xs) (hx : areLit g xs) (hxl : n2 ≤ 1000000) :
    Calls Try.prog 49 #[.agg #[.int .i64 g.inputs, .slice A g.gates.length c], .slice A1 n1 c1, .slice A' n2 c'] w fun e w' => ∃ A9 c9, e = .returned (.tuple #[.slice A9 n2 c9, .int .i64 0]) ∧ SlB w' B0 A9 c9 (evs g ins xs) ∧ Below w.heap.size w w' := by
  subst e1 e2
  refine (geval_any g A c ins A1 c1 xs A' c' B0 w hB hw hc hins hlen hs hx hxl).mono ?_
  rintro e w' ⟨v, rfl, ho, hb⟩
  obtain ⟨A9, c9, rfl, hs9⟩ := ho.sl B0
  exact ⟨A9, c9, by rw [List.length_map], hs9, hb⟩
theorem value_n {bs : List Bool} {A : Option Addr} {c B0 n : Nat} {v : Int} {w : World} (e : bs.length = n) (hv : valueF 0 bs = v) (hs : SlB w B0 A c bs) :
    Calls Try.prog 27 #[.int .i64 0, .slice A n c] w fun e w' => e = .returned (.int .i64 v) ∧ w = w' := by
  subst e hv
  exact value_any 0 bs A c B0 w hs
theorem circuit_env {B0 p m k : Nat} {g0 g : GS} {w : World} (E : Env B0 p m g0 k w g) : Calls Try.prog 50 #[.pointer (some ⟨p, 0, none⟩)] w fun e w' => ∃ A c, e = .returned (.agg #[.int .i64 g.inputs, .slice A g.gates.length c]) ∧ CirIn w' A c g ∧ Below w.heap.size w w' := by
  obtain ⟨Ab, cb, hbd⟩ := E.bd
  refine (circuit_any B0 p m Ab cb g w hbd E.wf.size).mono ?_
  rintro e w' ⟨A, c, rfl, ho, hb⟩
  exact ⟨A, c, rfl, CirIn.of_own ho, hb⟩
/-- The rows of the law's table. -/
def ZF (q : Nat) (ins : List Bool) (g : GS) (B0 bz : Nat) (w : World) : Prop :=
  ∀ k : Nat, k < 7 → ∃ A c ws v, w.cell? ⟨bz, k * 2, none⟩ = some (.slice A q c) ∧ w.cell? ⟨bz, k * 2 + 1, none⟩ = some (.int .i64 v) ∧ Okv q ins g ws v ∧ SlI w B0 A c ws
theorem ZF.below {q : Nat} {ins : List Bool} {g : GS} {B0 bz : Nat} {w w' : World} (h : ZF q ins g B0 bz w) (hb : Below w.heap.size w w') : ZF q ins g B0 bz w' := fun k hk =>
  let ⟨A, c, ws, v, h1, h2, h3, h4⟩ := h k hk
  ⟨A, c, ws, v, (hb.cell (cell_lt h1)).trans h1, (hb.cell (cell_lt h2)).trans h2, h3, h4.below hb⟩
theorem z_cell (w : World) (cs : Array Value) (t k : Nat) : (w.alloc (.cells cs t)).cell? ⟨w.heap.size, k, none⟩ = cs[k]? := by
  exact cell_of_row _ _ _ _ _ _ (heap_alloc_new w _)
end Go.Proofs.Ytgmcajojigedaaa
