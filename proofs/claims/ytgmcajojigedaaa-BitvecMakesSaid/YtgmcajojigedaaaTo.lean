/- The inputs of a node: sorting and compacting, plain laws, and the walk of the table's Inputs. -/
import Derived.Test.YtgmcajojigedaaaTn
import Derived.Sort.Grow
import Derived.Lib.SlicesCompact
set_option linter.unusedSimpArgs false
set_option linter.unusedVariables false
namespace Go.Proofs.Ytgmcajojigedaaa
open Go.RowKit Go.Maps

/-! ### Lists that increase -/
theorem sorted_unique : ∀ {a b : List Int}, a.Pairwise (· < ·) → b.Pairwise (· < ·) → (∀ x, x ∈ a ↔ x ∈ b) → a = b
  | [], [], _, _, _ => rfl
  | [], y :: b, _, _, h => by have := (h y).2 (by simp); simp at this
  | x :: a, [], _, _, h => by have := (h x).1 (by simp); simp at this
  | x :: a, y :: b, ha, hb, h => by
    obtain ⟨ha1, ha2⟩ := List.pairwise_cons.1 ha
    obtain ⟨hb1, hb2⟩ := List.pairwise_cons.1 hb
    have hxy : x = y := by
      have h1 := (h x).1 (by simp)
      have h2 := (h y).2 (by simp)
      rcases List.mem_cons.1 h1 with h1 | h1
      · exact h1
      · rcases List.mem_cons.1 h2 with h2 | h2
        · exact h2.symm
        · have := ha1 y h2; have := hb1 x h1; omega
    subst hxy
    rw [sorted_unique ha2 hb2 fun z => ?_]
    constructor
    · intro hz
      have := (h z).1 (List.mem_cons_of_mem _ hz)
      rcases List.mem_cons.1 this with e | e
      · have := ha1 z hz; omega
      · exact e
    · intro hz
      have := (h z).2 (List.mem_cons_of_mem _ hz)
      rcases List.mem_cons.1 this with e | e
      · have := hb1 z hz; omega
      · exact e
theorem compactTo {zs : List Int} (hs : zs.Pairwise (· ≤ ·)) : ∀ m, m ≤ zs.length →
    (∀ x, x ∈ Lib.compactUpTo zs.toArray m ↔ ∃ j, j < m ∧ zs[j]? = some x) ∧ (Lib.compactUpTo zs.toArray m).Pairwise (· < ·)
  | 0, _ => ⟨fun x => by simp [Lib.compactUpTo], by simp [Lib.compactUpTo]⟩
  | m + 1, hm => by
    obtain ⟨h1, h2⟩ := compactTo hs m (by omega)
    have hx : zs[m]? = some zs[m] := List.getElem?_eq_getElem (by omega)
    have hd : zs.toArray[m]! = zs[m] := by rw [getElem!_pos _ m (by simp; omega)]; simp
    rw [Lib.compactUpTo_succ, hd]
    by_cases hk : Lib.keeps zs.toArray m = true
    · rw [if_pos hk]
      refine ⟨fun x => ?_, ?_⟩
      · rw [List.mem_append, h1, List.mem_singleton]
        constructor
        · rintro (⟨j, hj, he⟩ | rfl)
          · exact ⟨j, by omega, he⟩
          · exact ⟨m, by omega, hx⟩
        · rintro ⟨j, hj, he⟩
          rcases Nat.lt_succ_iff_lt_or_eq.1 hj with h | rfl
          · exact .inl ⟨j, h, he⟩
          · rw [hx] at he; exact .inr (Option.some.inj he).symm
      · rw [List.pairwise_append]
        refine ⟨h2, List.pairwise_singleton _ _, fun x hxm y hy => ?_⟩
        rw [List.mem_singleton] at hy
        subst hy
        obtain ⟨j, hj, he⟩ := (h1 x).1 hxm
        obtain ⟨hjl, hje⟩ := List.getElem?_eq_some_iff.1 he
        have hle : ∀ (p q : Nat) (hp : p < zs.length) (hq : q < zs.length), p ≤ q → zs[p] ≤ zs[q] := fun p q hp hq h => by
          rcases Nat.lt_or_ge p q with h' | h'
          · exact List.pairwise_iff_getElem.1 hs p q hp hq h'
          · have : p = q := by omega
            subst this; exact Int.le_refl _
        unfold Lib.keeps at hk
        have hk := of_decide_eq_true hk
        rcases hk with h | h
        · omega
        · have hm0 : m ≠ 0 := by omega
          rw [hd, getElem!_pos zs.toArray (m - 1) (by simp; omega)] at h
          simp only [List.getElem_toArray] at h
          have h3 := hle j (m - 1) hjl (by omega) (by omega)
          have h4 := hle (m - 1) m (by omega) (by omega) (by omega)
          omega
    · have hk' : Lib.keeps zs.toArray m = false := by simpa using hk
      rw [hk']
      simp only [Bool.false_eq_true, if_false, List.append_nil]
      refine ⟨fun x => ?_, h2⟩
      rw [h1]
      constructor
      · rintro ⟨j, hj, he⟩; exact ⟨j, by omega, he⟩
      · rintro ⟨j, hj, he⟩
        rcases Nat.lt_succ_iff_lt_or_eq.1 hj with h | rfl
        · exact ⟨j, h, he⟩
        · unfold Lib.keeps at hk'
          have hk' := of_decide_eq_false hk'
          have hj0 : j ≠ 0 := fun h => hk' (.inl h)
          have heq : zs.toArray[j]! = zs.toArray[j - 1]! := by
            by_cases h : zs.toArray[j]! = zs.toArray[j - 1]!
            · exact h
            · exact absurd (.inr h) hk'
          rw [hd, getElem!_pos zs.toArray (j - 1) (by simp; omega)] at heq
          simp only [List.getElem_toArray] at heq
          refine ⟨j - 1, by omega, ?_⟩
          rw [List.getElem?_eq_getElem (by omega), ← heq, ← hx, he]
theorem compact_mem {zs : List Int} (hs : zs.Pairwise (· ≤ ·)) (x : Int) : x ∈ Lib.compact zs ↔ x ∈ zs := by
  unfold Lib.compact
  rw [(compactTo hs zs.length (Nat.le_refl _)).1, List.mem_iff_getElem?]
  constructor
  · rintro ⟨j, _, h⟩; exact ⟨j, h⟩
  · rintro ⟨j, h⟩; exact ⟨j, (List.getElem?_eq_some_iff.1 h).1, h⟩
theorem compact_sorted {zs : List Int} (hs : zs.Pairwise (· ≤ ·)) : (Lib.compact zs).Pairwise (· < ·) := (compactTo hs zs.length (Nat.le_refl _)).2
def sortL (zs : List Int) : List Int := zs.mergeSort fun x y => decide (x ≤ y)
theorem sortL_sorted (zs : List Int) : (sortL zs).Pairwise (· ≤ ·) := by
  have := List.pairwise_mergeSort (le := fun x y : Int => decide (x ≤ y)) (fun a b c h1 h2 => by simp at h1 h2 ⊢; omega) (fun a b => by simp; omega) zs
  exact this.imp fun h => by simpa using h
theorem sortL_mem (zs : List Int) (x : Int) : x ∈ sortL zs ↔ x ∈ zs := by simp [sortL]
theorem sortL_length (zs : List Int) : (sortL zs).length = zs.length := by simp [sortL]
/-- The values of the inputs among some nodes. -/
def isInp (T : TS) (k : Nat) : Option Int := match T.nodes[k]? with
  | some t => if t.op = 0 ∨ t.op = 1 then some t.v else none
  | none => none
def inpsL (T : TS) (P : List Nat) : List Int := P.filterMap (isInp T)
def inputsF (T : TS) (P : List Nat) : List Int := Lib.compact (sortL (inpsL T P))
theorem inputsF_mem (T : TS) (P : List Nat) (x : Int) : x ∈ inputsF T P ↔ ∃ k ∈ P, isInp T k = some x := by
  unfold inputsF
  rw [compact_mem (sortL_sorted _), sortL_mem]
  unfold inpsL
  rw [List.mem_filterMap]
theorem inputsF_sorted (T : TS) (P : List Nat) : (inputsF T P).Pairwise (· < ·) := compact_sorted (sortL_sorted _)

/-! ### The walks -/
theorem grow_own {w : World} {B : Nat} {v : Value} {xs : List Int} (h : OwnI w B v xs) (os : Array Obj) : OwnI (Go.Sort.grow w os) B v xs ∧ Below w.heap.size w (Go.Sort.grow w os) := by
  have hb : Below w.heap.size w (Go.Sort.grow w os) := ⟨rfl, rfl, rfl, by simp, fun k hk => Go.Sort.heap_grow_old w os hk⟩
  exact ⟨h.below hb, hb⟩
theorem sort_own {w : World} {B g n cap : Nat} {xs : List Int} (h : OwnI w B (.slice (some ⟨g, 0, none⟩) n cap) xs) (e : xs.length = n) (h63 : n < 4611686018427387904) :
    Calls Try.prog 121 #[.slice (some ⟨g, 0, none⟩) n cap] w fun e w' => e = .returned (.tuple #[]) ∧ OwnI w' B (.slice (some ⟨g, 0, none⟩) n cap) (sortL xs) ∧ w.grownBy w' (some g) := by
  subst e
  refine (Try.slices_Sort_int g 0 cap xs w (own_holds h rfl) (h.lt g rfl).2 h63).mono ?_
  rintro e w' ⟨rfl, q, os, rfl⟩
  obtain ⟨h1, h2⟩ := own_put (ys := sortL xs) q h rfl (sortL_length xs)
  obtain ⟨h3, h4⟩ := grow_own h1 os
  exact ⟨rfl, h3, ⟨h4.os.trans h2.os, h4.tape.trans h2.tape, h4.output.trans h2.output, Nat.le_trans h2.size h4.size, fun k hk hne => (h4.block k (Nat.lt_of_lt_of_le hk h2.size)).trans (h2.block k hk hne)⟩⟩
theorem own_take {w : World} {B g n cap k : Nat} {xs : List Int} (h : OwnI w B (.slice (some ⟨g, 0, none⟩) n cap) xs) (e : xs.length = n) (hk : k ≤ n) : OwnI w B (.slice (some ⟨g, 0, none⟩) k cap) (xs.take k) := by
  have hl : (xs.take k).length = k := by rw [List.length_take]; omega
  refine ⟨by simp, .inr ?_⟩
  rcases h.2 with ⟨h0, _⟩ | ⟨g', cap', cur, e1, h1, h2, h3, h4, h5, h6⟩
  · cases h0
  · injection e1 with e1 e3 e4
    injection e1 with e1
    injection e1 with e1 _ _
    subst e1 e4
    refine ⟨g, cap, cur, by rw [hl], h1, h2, by rw [hl]; omega, h4, h5, ?_⟩
    rw [hl, Nat.mul_one, List.map_take, ← h6, Nat.mul_one, List.take_take]
    congr 1; omega
theorem compact_own {w : World} {B g n cap : Nat} {xs : List Int} (h : OwnI w B (.slice (some ⟨g, 0, none⟩) n cap) xs) (e : xs.length = n) (h63 : n ≤ 9223372036854775807) (hcap : n ≤ cap) :
    Calls Try.prog 122 #[.slice (some ⟨g, 0, none⟩) n cap] w fun e w' => ∃ v, e = .returned v ∧ OwnI w' B v (Lib.compact xs) ∧ w.grownBy w' (some g) := by
  subst e
  refine (Try.slices_Compact_int g 0 cap xs w (own_holds h rfl) h63 hcap).mono ?_
  rintro e w' ⟨rfl, q, rfl⟩
  have hl : (Lib.compact xs).length ≤ xs.length := by
    unfold Lib.compact Lib.compactUpTo
    rw [List.length_map]
    exact Nat.le_trans (List.length_filter_le _ _) (by simp)
  obtain ⟨h1, h2⟩ := own_put (ys := Lib.compact xs ++ List.replicate (xs.length - (Lib.compact xs).length) 0) q h rfl (by simp; omega)
  have h3 := own_take h1 (by simp; omega) hl
  rw [List.take_left' rfl] at h3
  exact ⟨_, rfl, h3, h2⟩
theorem isInp_len (T : TS) (P : List Nat) (j : Nat) : (inpsL T (P.take j)).length ≤ j := by
  unfold inpsL
  refine Nat.le_trans (List.length_filterMap_le _ _) ?_
  rw [List.length_take]; omega
theorem app1H {P : Program} {α : Type} (F : α → Value) (hF : ∀ x, (F x).oneCell' = true) (t e bytes : Nat) {z : Value} (ht : P.underlying t = some (.slice e))
    (hinfo : (P.info? e).map (fun i => (i.zero, i.size, i.bytes)) = some (some z, 1, bytes)) (hzs : z.cells.size = 1)
    {ops : Array Oper} {rest : List Oper} {o : Oper} {a : Act} {Q : Exit → Act → World → Prop} {w0 : World} (hg : o.guard = none) (s x : Operand)
    (hop : o.op = .call { callee := .builtin .append, args := #[s, x], argTypes := #[t, t] })
    (B : Nat) (v : Value) (xs : List α) (y : α) (hown : OwnOf F e w0 B v xs) (hs : a.eval s = v) (H : Nat) (hx : a.eval x = .slice (some ⟨H, 0, none⟩) 1 1) (hH : w0.heap.size = H)
    (h63 : xs.length + 1 ≤ 9223372036854775807) (hb : (xs.length + 1) * bytes ≤ 140737488355328) (hB : B ≤ w0.heap.size)
    (hK : ∀ v' w', OwnOf F e w' B v' (xs ++ [y]) → w0.grownBy w' v.ownBlock → wpList P ops Q rest (a.put o.dst v') w') :
    wpList P ops Q (o :: rest) a (w0.alloc (.cells #[F y] e)) := by
  subst hH
  exact app1 F hF t e bytes ht hinfo hzs hg s x hop B v xs y hown hs hx h63 hb hB hK
section
variable {B0 p m : Nat} {A : Option Addr} {c' : Nat} {T : TS} {w : World}
def InpRet (w : World) (l : List Int) (e : Ending) (w' : World) : Prop := ∃ v, e = .returned v ∧ OwnI w' w.heap.size v l ∧ Below w.heap.size w w'
set_option maxRecDepth 100000 in
set_option maxHeartbeats 4000000 in
theorem inputs_gen (hb : Tb B0 w p m A c' T) (P : List Nat) (hPl : P.length ≤ 20000) (hP : ∀ k ∈ P, k < T.nodes.length) {i : Int}
    (hc : ∀ w, Tb B0 w p m A c' T → Calls Try.prog 118 #[.pointer (some ⟨p, 0, none⟩), .int .i64 i] w fun e w' => ∃ v, e = .returned v ∧ OwnI w' w.heap.size v (P.map fun k => ((k : Nat) : Int)) ∧ Below w.heap.size w w') :
    Calls Try.prog 61 #[.pointer (some ⟨p, 0, none⟩), .int .i64 i] w (InpRet w (inputsF T P)) := by
  have HB := Lib.hid hb
  have HC := Lib.hid hc
  have HP := Lib.hid hP
  have HPW : Hid (p < w.heap.size) := lt_of_some hb.blk
  clear hb hc hP
  go_enter Try.func61, Try.ntmps61
  go_wp2_with (go_at_call 118; go_must (refine (HC.out w HB.out).mono ?_; rintro e w2 ⟨v2, rfl, ho2, hb2⟩; obtain ⟨A1, c1, rfl, hs2⟩ := ho2.sl w.heap.size; rw [List.length_map]; have HSP := Lib.hid hs2; have HB2 := Lib.hid hb2; clear ho2 hs2 hb2))
  go_loopw [5, 7, 8, 13] (fun v _ _ u wr => ∃ (j : Nat) (v' : Value), v' = v ∧ j ≤ P.length ∧ u = .int .i64 j ∧ OwnI wr w2.heap.size v' (inpsL T (P.take j)) ∧ Below w2.heap.size w2 wr) (fun _ _ _ u _ => P.length - (intOf u).toNat)
  case atStart => exact ⟨0, _, rfl, Nat.zero_le _, rfl, OwnOf.nil _ _, Below.refl _ _⟩
  case round =>
    obtain ⟨j, v', rfl, hj, rfl, hown, hbr⟩ := hrel
    rename_i wr
    have HBR := Lib.hid hbr
    have HOWN := Lib.hid hown
    by_cases hlt : j < P.length
    · obtain ⟨bp, op, x, hA1, hx, hcx⟩ := (HSP.out.below hbr).at_ (k := j) (by rw [List.length_map]; exact hlt)
      subst hA1
      have hPj : P[j]? = some P[j] := List.getElem?_eq_getElem hlt
      obtain ⟨k, hk⟩ : ∃ k, P[j] = k := ⟨_, rfl⟩
      rw [hk] at hPj
      have hx' : x = (k : Int) := by rw [List.getElem?_map, hPj] at hx; exact (Option.some.inj hx).symm
      subst hx'
      have hkl := HP.out k (List.mem_of_getElem? hPj)
      have hklI : (k : Int) < (T.nodes.length : Int) := by omega
      have HBW : Hid (Below w.heap.size w wr) := HB2.out.trans (hbr.mono HB2.out.size)
      have ht := HB.out.below HBW.out
      have c1' := ht.cell1
      obtain ⟨bn, t, hA, htk, hcell⟩ := ht.nodes.at_ hkl
      rw [hA] at c1'
      obtain ⟨n0, n1, n2, n3, n4⟩ := hcell
      have htake : inpsL T (P.take (j + 1)) = inpsL T (P.take j) ++ (match isInp T k with | some v => [v] | none => []) := by
        unfold inpsL
        rw [List.take_add_one, hPj, List.filterMap_append]
        congr 1
        show List.filterMap (isInp T) [k] = _
        rw [List.filterMap_cons]
        cases isInp T k <;> rfl
      have hinp : isInp T k = if t.op = 0 ∨ t.op = 1 then some t.v else none := by unfold isInp; rw [htk]
      rw [hinp] at htake
      have hlen := isInp_len T P j
      obtain ⟨op', v, a, b, c⟩ := t
      dsimp only at n0 n1 n2 n3 n4 htake
      have hf5 : Below wr.heap.size wr (wr.alloc (.cells #[.int .i64 op', .int .i64 v, .int .i64 a, .int .i64 b, .int .i64 c] 84)) := below_alloc _ _
      have HF5 := Lib.hid hf5
      clear hbr hx hPj hk ht htk hA hinp hf5
      by_cases hop : op' = 0 ∨ op' = 1
      · rw [if_pos hop] at htake
        have HTK := Lib.hid htake
        have hown5 := hown.below HF5.out
        have HO5 := Lib.hid hown5
        clear htake hown
        rcases hop with rfl | rfl
        all_goals
          go_wp2_with (at_builtin; go_must (refine app1H (Value.int .i64) oneInt 24 3 8 Try.underlying24 Try.info3 rfl rfl _ _ rfl _ _ _ _ hown5 rfl (wr.heap.size + 1) rfl (by simp) ?_ ?_ ?_ ?_))
          · omega
          · omega
          · first | (simp; have := HBR.out.size; omega) | (have := HBR.out.size; omega)
          intro v9 w9 ho9 hg9
          rw [← HTK.out] at ho9
          have hb9 := (HBR.out.trans (HF5.out.mono HBR.out.size)).grown hg9 (HBR.out.trans (HF5.out.mono HBR.out.size)).size (fun q hq => (HO5.out.lt q hq).1)
          clear hg9 hown5 c1' n0 n1 n2 n3 n4 hcx
          go_wp2
          go_roundw
          case rel => exact ⟨j + 1, _, rfl, by omega, by go_num, ho9, hb9⟩
          case measure => simp [intOf]; omega
      · rw [if_neg hop] at htake
        have e0 : (op' == 0) = false := beq_eq_false_iff_ne.2 (fun h => hop (.inl h))
        have e1 : (op' == 1) = false := beq_eq_false_iff_ne.2 (fun h => hop (.inr h))
        have HTK : Hid (inpsL T (P.take (j + 1)) = inpsL T (P.take j)) := by show _ = _; rw [htake]; simp
        clear htake hown hop
        go_wp2
        go_roundw
        case rel => exact ⟨j + 1, _, rfl, by omega, by go_num, by rw [HTK.out]; exact HOWN.out.below HF5.out, HBR.out.trans (HF5.out.mono HBR.out.size)⟩
        case measure => simp [intOf]; omega
    · obtain rfl : j = P.length := by omega
      rw [List.take_length] at hown
      have hlen := isInp_len T P P.length
      rw [List.take_length] at hlen
      have HBW : Hid (Below w.heap.size w wr) := HB2.out.trans (hbr.mono HB2.out.size)
      have HZ : Hid (w.heap.size ≤ w2.heap.size) := HB2.out.size
      have HRES : Hid (inputsF T P = Lib.compact (sortL (inpsL T P))) := rfl
      generalize hxs : inpsL T P = xs at hown hlen HRES
      clear hxs hbr HOWN HBR
      by_cases hn : 0 < xs.length
      · obtain ⟨G, cg, hv, hG⟩ := hown.form hn
        subst hv
        have hcap : xs.length ≤ cg := by
          obtain ⟨Ax, cx, ex, hx⟩ := hown.sl 0
          injection ex with _ _ e3
          have := hx.1; omega
        have HOWN := Lib.hid hown
        have HL : Hid ((sortL xs).length = xs.length) := sortL_length xs
        have HGL : Hid (w2.heap.size ≤ G) := hG
        clear hown hG
        go_wp2_with (first
          | (go_at_call 121; go_must (refine (sort_own HOWN.out rfl (by omega)).mono ?_; rintro e w5 ⟨rfl, ho5, hg5⟩; have HO5 := Lib.hid ho5; have HG5 := Lib.hid hg5; clear ho5 hg5))
          | (go_at_call 122; go_must (refine (compact_own HO5.out HL.out (by omega) hcap).mono ?_; rintro e w6 ⟨v6, rfl, ho6, hg6⟩; have HO6 := Lib.hid ho6; have HG6 := Lib.hid hg6; clear ho6 hg6)))
        go_ret
        refine ⟨_, rfl, ?_, ?_⟩
        · rw [HRES.out]; exact HO6.out.mono HZ.out
        · have h5 := HBW.out.grown HG5.out HBW.out.size (fun q hq => by cases hq; have := HGL.out; have := HZ.out; omega)
          exact h5.grown HG6.out h5.size (fun q hq => by cases hq; have := HGL.out; have := HZ.out; omega)
      · have hx0 : xs = [] := List.eq_nil_of_length_eq_zero (by omega)
        subst hx0
        have hv : ∃ A9 c9, v' = .slice A9 0 c9 := by
          obtain ⟨A9, c9, h, _⟩ := hown.sl 0
          exact ⟨A9, c9, h⟩
        obtain ⟨A9, c9, hv⟩ := hv
        subst hv
        have HOWN := Lib.hid hown
        have HNIL : Hid (Lib.compact (sortL []) = []) := by show _ = _; simp [sortL, Lib.compact, Lib.compactUpTo]
        clear hown
        go_wp2_with (first
          | (go_at_call 121; go_must (refine (Try.slices_Sort_int_none A9 c9 _).mono ?_; rintro e w5 ⟨rfl, rfl⟩))
          | (go_at_call 122; go_must (refine (Try.slices_Compact_int_empty A9 c9 _).mono ?_; rintro e w6 ⟨rfl, rfl⟩)))
        go_ret
        exact ⟨_, rfl, by rw [HRES.out, HNIL.out]; exact HOWN.out.mono HZ.out, HBW.out⟩
theorem inputs_yes (hb : Tb B0 w p m A c' T) (hw : TWf T) {i : Nat} {t0 : Tm} (hi : T.nodes[i]? = some t0) :
    Calls Try.prog 61 #[.pointer (some ⟨p, 0, none⟩), .int .i64 i] w (InpRet w (inputsF T (partsN T i))) := by
  have hil := (List.getElem?_eq_some_iff.1 hi).1
  have hsz := hw.size
  refine inputs_gen hb _ ?_ (fun k hk => by have := (parts_le hk).1; omega) fun w h => parts_yes h hw hi
  unfold partsN
  refine Nat.le_trans (List.length_filter_le _ _) ?_
  rw [List.length_range]; omega
theorem inputs_no (hb : Tb B0 w p m A c' T) {i : Int} (hi : hasB T i = false) :
    Calls Try.prog 61 #[.pointer (some ⟨p, 0, none⟩), .int .i64 i] w (InpRet w []) := by
  have h := inputs_gen hb [] (by simp) (fun k hk => by simp at hk) (i := i) fun w h => (parts_no h hi).mono fun e w' ⟨he, hw'⟩ => ⟨_, he, OwnOf.nil _ _, by rw [← hw']; exact Below.refl _ _⟩
  have e : inputsF T [] = [] := by simp [inputsF, inpsL, sortL, Lib.compact, Lib.compactUpTo]
  rwa [e] at h
end
end Go.Proofs.Ytgmcajojigedaaa
