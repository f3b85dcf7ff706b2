/- The inputs of a node: sorting and compacting, plain laws, and the walk of the table's Inputs. Tables that are built of terms; the examples that the laws of chapter 22 check first. -/
import Derived.Test.YtgmcajojigedaaaTl
import Derived.Sort.Grow
import Derived.Lib.SlicesCompact
set_option linter.unusedSimpArgs false
set_option linter.unusedVariables false
namespace Go.Proofs.Ytgmcajojigedaaa
open Go.RowKit Go.Maps

/-! ### Lists that increase -/
theorem sorted_unique : ∀ {a b : List Int}, a.Pairwise (· < ·) → b.Pairwise (· < ·) → (∀ x, x ∈ a ↔ x ∈ b) → a = b
  | [], [], _, _, _ => rfl
  | [], y :: b, _, _, h => by have := (h y).2 (by simp); simp at this
  | x :: a, [], _, _, h => by have := (h x).1 (by simp); simp at this
  | x :: a, y :: b, ha, hb, h => by
    obtain ⟨ha1, ha2⟩ := List.pairwise_cons.1 ha
    obtain ⟨hb1, hb2⟩ := List.pairwise_cons.1 hb
    have hxy : x = y := by
      have h1 := (h x).1 (by simp)
      have h2 := (h y).2 (by simp)
      rcases List.mem_cons.1 h1 with h1 | h1
      · exact h1
      · rcases List.mem_cons.1 h2 with h2 | h2
        · exact h2.symm
        · have := ha1 y h2; have := hb1 x h1; omega
    subst hxy
    rw [sorted_unique ha2 hb2 fun z => ?_]
    constructor
    · intro hz
      have := (h z).1 (List.mem_cons_of_mem _ hz)
      rcases List.mem_cons.1 this with e | e
      · have := ha1 z hz; omega
      · exact e
    · intro hz
      have := (h z).2 (List.mem_cons_of_mem _ hz)
      rcases List.mem_cons.1 this with e | e
      · have := hb1 z hz; omega
      · exact e
theorem compactTo {zs : List Int} (hs : zs.Pairwise (· ≤ ·)) : ∀ m, m ≤ zs.length →
    (∀ x, x ∈ Lib.compactUpTo zs.toArray m ↔ ∃ j, j < m ∧ zs[j]? = some x) ∧ (Lib.compactUpTo zs.toArray m).Pairwise (· < ·)
  | 0, _ => ⟨fun x => by simp [Lib.compactUpTo], by simp [Lib.compactUpTo]⟩
  | m + 1, hm => by
    obtain ⟨h1, h2⟩ := compactTo hs m (by omega)
    have hx : zs[m]? = some zs[m] := List.getElem?_eq_getElem (by omega)
    have hd : zs.toArray[m]! = zs[m] := by rw [getElem!_pos _ m (by simp; omega)]; simp
    rw [Lib.compactUpTo_succ, hd]
    by_cases hk : Lib.keeps zs.toArray m = true
    · rw [if_pos hk]
      refine ⟨fun x => ?_, ?_⟩
      · rw [List.mem_append, h1, List.mem_singleton]
        constructor
        · rintro (⟨j, hj, he⟩ | rfl)
          · exact ⟨j, by omega, he⟩
          · exact ⟨m, by omega, hx⟩
        · rintro ⟨j, hj, he⟩
          rcases Nat.lt_succ_iff_lt_or_eq.1 hj with h | rfl
          · exact .inl ⟨j, h, he⟩
          · rw [hx] at he; exact .inr (Option.some.inj he).symm
      · rw [List.pairwise_append]
        refine ⟨h2, List.pairwise_singleton _ _, fun x hxm y hy => ?_⟩
        rw [List.mem_singleton] at hy
        subst hy
        obtain ⟨j, hj, he⟩ := (h1 x).1 hxm
        obtain ⟨hjl, hje⟩ := List.getElem?_eq_some_iff.1 he
        have hle : ∀ (p q : Nat) (hp : p < zs.length) (hq : q < zs.length), p ≤ q → zs[p] ≤ zs[q] := fun p q hp hq h => by
          rcases Nat.lt_or_ge p q with h' | h'
          · exact List.pairwise_iff_getElem.1 hs p q hp hq h'
          · have : p = q := by omega
            subst this; exact Int.le_refl _
        unfold Lib.keeps at hk
        have hk := of_decide_eq_true hk
        rcases hk with h | h
        · omega
        · have hm0 : m ≠ 0 := by omega
          rw [hd, getElem!_pos zs.toArray (m - 1) (by simp; omega)] at h
          simp only [List.getElem_toArray] at h
          have h3 := hle j (m - 1) hjl (by omega) (by omega)
          have h4 := hle (m - 1) m (by omega) (by omega) (by omega)
          omega
    · have hk' : Lib.keeps zs.toArray m = false := by simpa using hk
      rw [hk']
      simp only [Bool.false_eq_true, if_false, List.append_nil]
      refine ⟨fun x => ?_, h2⟩
      rw [h1]
      constructor
      · rintro ⟨j, hj, he⟩; exact ⟨j, by omega, he⟩
      · rintro ⟨j, hj, he⟩
        rcases Nat.lt_succ_iff_lt_or_eq.1 hj with h | rfl
        · exact ⟨j, h, he⟩
        · unfold Lib.keeps at hk'
          have hk' := of_decide_eq_false hk'
          have hj0 : j ≠ 0 := fun h => hk' (.inl h)
          have heq : zs.toArray[j]! = zs.toArray[j - 1]! := by
            by_cases h : zs.toArray[j]! = zs.toArray[j - 1]!
            · exact h
            · exact absurd (.inr h) hk'
          rw [hd, getElem!_pos zs.toArray (j - 1) (by simp; omega)] at heq
          simp only [List.getElem_toArray] at heq
          refine ⟨j - 1, by omega, ?_⟩
          rw [List.getElem?_eq_getElem (by omega), ← heq, ← hx, he]
theorem compact_mem {zs : List Int} (hs : zs.Pairwise (· ≤ ·)) (x : Int) : x ∈ Lib.compact zs ↔ x ∈ zs := by
  unfold Lib.compact
  rw [(compactTo hs zs.length (Nat.le_refl _)).1, List.mem_iff_getElem?]
  constructor
  · rintro ⟨j, _, h⟩; exact ⟨j, h⟩
  · rintro ⟨j, h⟩; exact ⟨j, (List.getElem?_eq_some_iff.1 h).1, h⟩
theorem compact_sorted {zs : List Int} (hs : zs.Pairwise (· ≤ ·)) : (Lib.compact zs).Pairwise (· < ·) := (compactTo hs zs.length (Nat.le_refl _)).2
def sortL (zs : List Int) : List Int := zs.mergeSort fun x y => decide (x ≤ y)
theorem sortL_sorted (zs : List Int) : (sortL zs).Pairwise (· ≤ ·) := by
  have := List.pairwise_mergeSort (le := fun x y : Int => decide (x ≤ y)) (fun a b c h1 h2 => by simp at h1 h2 ⊢; omega) (fun a b => by simp; omega) zs
  exact this.imp fun h => by simpa using h
theorem sortL_mem (zs : List Int) (x : Int) : x ∈ sortL zs ↔ x ∈ zs := by simp [sortL]
theorem sortL_length (zs : List Int) : (sortL zs).length = zs.length := by simp [sortL]
/-- The values of the inputs among some nodes. -/
def isInp (T : TS) (k : Nat) : Option Int := match T.nodes[k]? with
  | some t => if t.op = 0 ∨ t.op = 1 then some t.v else none
  | none => none
def inpsL (T : TS) (P : List Nat) : List Int := P.filterMap (isInp T)
def inputsF (T : TS) (P : List Nat) : List Int := Lib.compact (sortL (inpsL T P))
theorem inputsF_mem (T : TS) (P : List Nat) (x : Int) : x ∈ inputsF T P ↔ ∃ k ∈ P, isInp T k = some x := by
  unfold inputsF
  rw [compact_mem (sortL_sorted _), sortL_mem]
  unfold inpsL
  rw [List.mem_filterMap]
theorem inputsF_sorted (T : TS) (P : List Nat) : (inputsF T P).Pairwise (· < ·) := compact_sorted (sortL_sorted _)

/-! ### The walks -/
theorem grow_own {w : World} {B : Nat} {v : Value} {xs : List Int} (h : OwnI w B v xs) (os : Array Obj) : OwnI (Go.Sort.grow w os) B v xs ∧ Below w.heap.size w (Go.Sort.grow w os) := by
  have hb : Below w.heap.size w (Go.Sort.grow w os) := ⟨rfl, rfl, rfl, by simp, fun k hk => Go.Sort.heap_grow_old w os hk⟩
  exact ⟨h.below hb, hb⟩
theorem sort_own {w : World} {B g n cap : Nat} {xs : List Int} (h : OwnI w B (.slice (some ⟨g, 0, none⟩) n cap) xs) (e : xs.length = n) (h63 : n < 4611686018427387904) :
    Calls Try.prog 121 #[.slice (some ⟨g, 0, none⟩) n cap] w fun e w' => e = .returned (.tuple #[]) ∧ OwnI w' B (.slice (some ⟨g, 0, none⟩) n cap) (sortL xs) ∧ w.grownBy w' (some g) := by
  subst e
  refine (Try.slices_Sort_int g 0 cap xs w (own_holds h rfl) (h.lt g rfl).2 h63).mono ?_
  rintro e w' ⟨rfl, q, os, rfl⟩
  obtain ⟨h1, h2⟩ := own_put (ys := sortL xs) q h rfl (sortL_length xs)
  obtain ⟨h3, h4⟩ := grow_own h1 os
  exact ⟨rfl, h3, ⟨h4.os.trans h2.os, h4.tape.trans h2.tape, h4.output.trans h2.output, Nat.le_trans h2.size h4.size, fun k hk hne => (h4.block k (Nat.lt_of_lt_of_le hk h2.size)).trans (h2.block k hk hne)⟩⟩
theorem own_take {w : World} {B g n cap k : Nat} {xs : List Int} (h : OwnI w B (.slice (some ⟨g, 0, none⟩) n cap) xs) (e : xs.length = n) (hk : k ≤ n) : OwnI w B (.slice (some ⟨g, 0, none⟩) k cap) (xs.take k) := by
  have hl : (xs.take k).length = k := by rw [List.length_take]; omega
  refine ⟨by simp, .inr ?_⟩
  rcases h.2 with ⟨h0, _⟩ | ⟨g', cap', cur, e1, h1, h2, h3, h4, h5, h6⟩
  · cases h0
  · injection e1 with e1 e3 e4
    injection e1 with e1
    injection e1 with e1 _ _
    subst e1 e4
    refine ⟨g, cap, cur, by rw [hl], h1, h2, by rw [hl]; omega, h4, h5, ?_⟩
    rw [hl, Nat.mul_one, List.map_take, ← h6, Nat.mul_one, List.take_take]
    congr 1; omega
theorem compact_own {w : World} {B g n cap : Nat} {xs : List Int} (h : OwnI w B (.slice (some ⟨g, 0, none⟩) n cap) xs) (e : xs.length = n) (h63 : n ≤ 9223372036854775807) (hcap : n ≤ cap) :
    Calls Try.prog 122 #[.slice (some ⟨g, 0, none⟩) n cap] w fun e w' => ∃ v, e = .returned v ∧ OwnI w' B v (Lib.compact xs) ∧ w.grownBy w' (some g) := by
  subst e
  refine (Try.slices_Compact_int g 0 cap xs w (own_holds h rfl) h63 hcap).mono ?_
  rintro e w' ⟨rfl, q, rfl⟩
  have hl : (Lib.compact xs).length ≤ xs.length := by
    unfold Lib.compact Lib.compactUpTo
    rw [List.length_map]
    exact Nat.le_trans (List.length_filter_le _ _) (by simp)
  obtain ⟨h1, h2⟩ := own_put (ys := Lib.compact xs ++ List.replicate (xs.length - (Lib.compact xs).length) 0) q h rfl (by simp; omega)
  have h3 := own_take h1 (by simp; omega) hl
  rw [List.take_left' rfl] at h3
  exact ⟨_, rfl, h3, h2⟩
theorem isInp_len (T : TS) (P : List Nat) (j : Nat) : (inpsL T (P.take j)).length ≤ j := by
  unfold inpsL
  refine Nat.le_trans (List.length_filterMap_le _ _) ?_
  rw [List.length_take]; omega
theorem app1H {P : Program} {α : Type} (F : α → Value) (hF : ∀ x, (F x).oneCell' = true) (t e bytes : Nat) {z : Value} (ht : P.underlying t = some (.slice e))
    (hinfo : (P.info? e).map (fun i => (i.zero, i.size, i.bytes)) = some (some z, 1, bytes)) (hzs : z.cells.size = 1)
    {ops : Array Oper} {rest : List Oper} {o : Oper} {a : Act} {Q : Exit → Act → World → Prop} {w0 : World} (hg : o.guard = none) (s x : Operand)
    (hop : o.op = .call { callee := .builtin .append, args := #[s, x], argTypes := #[t, t] })
    (B : Nat) (v : Value) (xs : List α) (y : α) (hown : OwnOf F e w0 B v xs) (hs : a.eval s = v) (H : Nat) (hx : a.eval x = .slice (some ⟨H, 0, none⟩) 1 1) (hH : w0.heap.size = H)
    (h63 : xs.length + 1 ≤ 9223372036854775807) (hb : (xs.length + 1) * bytes ≤ 140737488355328) (hB : B ≤ w0.heap.size)
    (hK : ∀ v' w', OwnOf F e w' B v' (xs ++ [y]) → w0.grownBy w' v.ownBlock → wpList P ops Q rest (a.put o.dst v') w') :
    wpList P ops Q (o :: rest) a (w0.alloc (.cells #[F y] e)) := by
  subst hH
  exact app1 F hF t e bytes ht hinfo hzs hg s x hop B v xs y hown hs hx h63 hb hB hK
section
variable {B0 p m : Nat} {A : Option Addr} {c' : Nat} {T : TS} {w : World}
def InpRet (w : World) (l : List Int) (e : Ending) (w' : World) : Prop := ∃ v, e = .returned v ∧ OwnI w' w.heap.size v l ∧ Below w.heap.size w w'
set_option maxRecDepth 100000 in
set_option maxHeartbeats 4000000 in
theorem inputs_gen (hb : Tb B0 w p m A c' T) (P : List Nat) (hPl : P.length ≤ 20000) (hP : ∀ k ∈ P, k < T.nodes.length) {i : Int}
    (hc : ∀ w, Tb B0 w p m A c' T → Calls Try.prog 118 #[.pointer (some ⟨p, 0, none⟩), .int .i64 i] w fun e w' => ∃ v, e = .returned v ∧ OwnI w' w.heap.size v (P.map fun k => ((k : Nat) : Int)) ∧ Below w.heap.size w w') :
    Calls Try.prog 61 #[.pointer (some ⟨p, 0, none⟩), .int .i64 i] w (InpRet w (inputsF T P)) := by
  have HB := Lib.hid hb
  have HC := Lib.hid hc
  have HP := Lib.hid hP
  have HPW : Hid (p < w.heap.size) := lt_of_some hb.blk
  clear hb hc hP
  go_enter Try.func61, Try.ntmps61
  go_wp2_with (go_at_call 118; go_must (refine (HC.out w HB.out).mono ?_; rintro e w2 ⟨v2, rfl, ho2, hb2⟩; obtain ⟨A1, c1, rfl, hs2⟩ := ho2.sl w.heap.size; rw [List.length_map]; have HSP := Lib.hid hs2; have HB2 := Lib.hid hb2; clear ho2 hs2 hb2))
  go_loopw [5, 7, 8, 13] (fun v _ _ u wr => ∃ (j : Nat) (v' : Value), v' = v ∧ j ≤ P.length ∧ u = .int .i64 j ∧ OwnI wr w2.heap.size v' (inpsL T (P.take j)) ∧ Below w2.heap.size w2 wr) (fun _ _ _ u _ => P.length - (intOf u).toNat)
  case atStart => exact ⟨0, _, rfl, Nat.zero_le _, rfl, OwnOf.nil _ _, Below.refl _ _⟩
  case round =>
    obtain ⟨j, v', rfl, hj, rfl, hown, hbr⟩ := hrel
    rename_i wr
    have HBR := Lib.hid hbr
    have HOWN := Lib.hid hown
    by_cases hlt : j < P.length
    · obtain ⟨bp, op, x, hA1, hx, hcx⟩ := (HSP.out.below hbr).at_ (k := j) (by rw [List.length_map]; exact hlt)
      subst hA1
      have hPj : P[j]? = some P[j] := List.getElem?_eq_getElem hlt
      obtain ⟨k, hk⟩ : ∃ k, P[j] = k := ⟨_, rfl⟩
      rw [hk] at hPj
      have hx' : x = (k : Int) := by rw [List.getElem?_map, hPj] at hx; exact (Option.some.inj hx).symm
      subst hx'
      have hkl := HP.out k (List.mem_of_getElem? hPj)
      have hklI : (k : Int) < (T.nodes.length : Int) := by omega
      have HBW : Hid (Below w.heap.size w wr) := HB2.out.trans (hbr.mono HB2.out.size)
      have ht := HB.out.below HBW.out
      have c1' := ht.cell1
      obtain ⟨bn, t, hA, htk, hcell⟩ := ht.nodes.at_ hkl
      rw [hA] at c1'
      obtain ⟨n0, n1, n2, n3, n4⟩ := hcell
      have htake : inpsL T (P.take (j + 1)) = inpsL T (P.take j) ++ (match isInp T k with | some v => [v] | none => []) := by
        unfold inpsL
        rw [List.take_add_one, hPj, List.filterMap_append]
        congr 1
        show List.filterMap (isInp T) [k] = _
        rw [List.filterMap_cons]
        cases isInp T k <;> rfl
      have hinp : isInp T k = if t.op = 0 ∨ t.op = 1 then some t.v else none := by unfold isInp; rw [htk]
      rw [hinp] at htake
      have hlen := isInp_len T P j
      obtain ⟨op', v, a, b, c⟩ := t
      dsimp only at n0 n1 n2 n3 n4 htake
      have hf5 : Below wr.heap.size wr (wr.alloc (.cells #[.int .i64 op', .int .i64 v, .int .i64 a, .int .i64 b, .int .i64 c] 84)) := below_alloc _ _
      have HF5 := Lib.hid hf5
      clear hbr hx hPj hk ht htk hA hinp hf5
      by_cases hop : op' = 0 ∨ op' = 1
      · rw [if_pos hop] at htake
        have HTK := Lib.hid htake
        have hown5 := hown.below HF5.out
        have HO5 := Lib.hid hown5
        clear htake hown
        rcases hop with rfl | rfl
        all_goals
          go_wp2_with (at_builtin; go_must (refine app1H (Value.int .i64) oneInt 24 3 8 Try.underlying24 Try.info3 rfl rfl _ _ rfl _ _ _ _ hown5 rfl (wr.heap.size + 1) rfl (by simp) ?_ ?_ ?_ ?_))
          · omega
          · omega
          · first | (simp; have := HBR.out.size; omega) | (have := HBR.out.size; omega)
          intro v9 w9 ho9 hg9
          rw [← HTK.out] at ho9
          have hb9 := (HBR.out.trans (HF5.out.mono HBR.out.size)).grown hg9 (HBR.out.trans (HF5.out.mono HBR.out.size)).size (fun q hq => (HO5.out.lt q hq).1)
          clear hg9 hown5 c1' n0 n1 n2 n3 n4 hcx
          go_wp2
          go_roundw
          case rel => exact ⟨j + 1, _, rfl, by omega, by go_num, ho9, hb9⟩
          case measure => simp [intOf]; omega
      · rw [if_neg hop] at htake
        have e0 : (op' == 0) = false := beq_eq_false_iff_ne.2 (fun h => hop (.inl h))
        have e1 : (op' == 1) = false := beq_eq_false_iff_ne.2 (fun h => hop (.inr h))
        have HTK : Hid (inpsL T (P.take (j + 1)) = inpsL T (P.take j)) := by show _ = _; rw [htake]; simp
        clear htake hown hop
        go_wp2
        go_roundw
        case rel => exact ⟨j + 1, _, rfl, by omega, by go_num, by rw [HTK.out]; exact HOWN.out.below HF5.out, HBR.out.trans (HF5.out.mono HBR.out.size)⟩
        case measure => simp [intOf]; omega
    · obtain rfl : j = P.length := by omega
      rw [List.take_length] at hown
      have hlen := isInp_len T P P.length
      rw [List.take_length] at hlen
      have HBW : Hid (Below w.heap.size w wr) := HB2.out.trans (hbr.mono HB2.out.size)
      have HZ : Hid (w.heap.size ≤ w2.heap.size) := HB2.out.size
      have HRES : Hid (inputsF T P = Lib.compact (sortL (inpsL T P))) := rfl
      generalize hxs : inpsL T P = xs at hown hlen HRES
      clear hxs hbr HOWN HBR
      by_cases hn : 0 < xs.length
      · obtain ⟨G, cg, hv, hG⟩ := hown.form hn
        subst hv
        have hcap : xs.length ≤ cg := by
          obtain ⟨Ax, cx, ex, hx⟩ := hown.sl 0
          injection ex with _ _ e3
          have := hx.1; omega
        have HOWN := Lib.hid hown
        have HL : Hid ((sortL xs).length = xs.length) := sortL_length xs
        have HGL : Hid (w2.heap.size ≤ G) := hG
        clear hown hG
        go_wp2_with (first
          | (go_at_call 121; go_must (refine (sort_own HOWN.out rfl (by omega)).mono ?_; rintro e w5 ⟨rfl, ho5, hg5⟩; have HO5 := Lib.hid ho5; have HG5 := Lib.hid hg5; clear ho5 hg5))
          | (go_at_call 122; go_must (refine (compact_own HO5.out HL.out (by omega) hcap).mono ?_; rintro e w6 ⟨v6, rfl, ho6, hg6⟩; have HO6 := Lib.hid ho6; have HG6 := Lib.hid hg6; clear ho6 hg6)))
        go_ret
        refine ⟨_, rfl, ?_, ?_⟩
        · rw [HRES.out]; exact HO6.out.mono HZ.out
        · have h5 := HBW.out.grown HG5.out HBW.out.size (fun q hq => by cases hq; have := HGL.out; have := HZ.out; omega)
          exact h5.grown HG6.out h5.size (fun q hq => by cases hq; have := HGL.out; have := HZ.out; omega)
      · have hx0 : xs = [] := List.eq_nil_of_length_eq_zero (by omega)
        subst hx0
        have hv : ∃ A9 c9, v' = .slice A9 0 c9 := by
          obtain ⟨A9, c9, h, _⟩ := hown.sl 0
          exact ⟨A9, c9, h⟩
        obtain ⟨A9, c9, hv⟩ := hv
        subst hv
        have HOWN := Lib.hid hown
        have HNIL : Hid (Lib.compact (sortL []) = []) := by show _ = _; simp [sortL, Lib.compact, Lib.compactUpTo]
        clear hown
        go_wp2_with (first
          | (go_at_call 121; go_must (refine (Try.slices_Sort_int_none A9 c9 _).mono ?_; rintro e w5 ⟨rfl, rfl⟩))
          | (go_at_call 122; go_must (refine (Try.slices_Compact_int_empty A9 c9 _).mono ?_; rintro e w6 ⟨rfl, rfl⟩)))
        go_ret
        exact ⟨_, rfl, by rw [HRES.out, HNIL.out]; exact HOWN.out.mono HZ.out, HBW.out⟩
theorem inputs_yes (hb : Tb B0 w p m A c' T) (hw : TWf T) {i : Nat} {t0 : Tm} (hi : T.nodes[i]? = some t0) :
    Calls Try.prog 61 #[.pointer (some ⟨p, 0, none⟩), .int .i64 i] w (InpRet w (inputsF T (partsN T i))) := by
  have hil := (List.getElem?_eq_some_iff.1 hi).1
  have hsz := hw.size
  refine inputs_gen hb _ ?_ (fun k hk => by have := (parts_le hk).1; omega) fun w h => parts_yes h hw hi
  unfold partsN
  refine Nat.le_trans (List.length_filter_le _ _) ?_
  rw [List.length_range]; omega
theorem inputs_no (hb : Tb B0 w p m A c' T) {i : Int} (hi : hasB T i = false) :
    Calls Try.prog 61 #[.pointer (some ⟨p, 0, none⟩), .int .i64 i] w (InpRet w []) := by
  have h := inputs_gen hb [] (by simp) (fun k hk => by simp at hk) (i := i) fun w h => (parts_no h hi).mono fun e w' ⟨he, hw'⟩ => ⟨_, he, OwnOf.nil _ _, by rw [← hw']; exact Below.refl _ _⟩
  have e : inputsF T [] = [] := by simp [inputsF, inpsL, sortL, Lib.compact, Lib.compactUpTo]
  rwa [e] at h
end
end Go.Proofs.Ytgmcajojigedaaa
namespace Go.Proofs.Ytgmcajojigedaaa
open Go.RowKit Go.Maps

theorem find_none {l : List Tm} {t : Tm} (h : l.findIdx? (· == t) = none) : t ∉ l := fun hm => by
  have := List.findIdx?_eq_none_iff.1 h t hm
  simp at this
theorem makeF_width (T : TS) (t : Tm) : (makeF T t).1.width = T.width := by
  unfold makeF
  split
  · split
    · rfl
    · split <;> rfl
  · rfl
theorem makeF_wf {T : TS} (hw : TWf T) (t : Tm) : TWf (makeF T t).1 := by
  unfold makeF
  split
  · rename_i hf
    split
    · exact hw
    · rename_i hn
      split
      · exact hw
      · rename_i hs
        refine ⟨hw.w1, hw.w2, by simp; omega, fun i s hi => ?_, ?_⟩
        · dsimp only at hi ⊢
          by_cases h : i < T.nodes.length
          · rw [List.getElem?_append_left h] at hi
            rw [List.take_append_of_le_length (by omega)]
            exact hw.fit i s hi
          · rw [List.getElem?_append_right (by omega)] at hi
            have hi0 : i - T.nodes.length = 0 := by have := (List.getElem?_eq_some_iff.1 hi).1; simp at this; omega
            rw [hi0] at hi
            simp at hi
            subst hi
            rw [show i = T.nodes.length by omega, List.take_left' rfl]
            exact hf
        · rw [List.nodup_append]
          refine ⟨hw.nodup, by simp, fun a ha b hb => ?_⟩
          simp at hb
          subst hb
          intro e
          subst e
          exact find_none hn ha
  · exact hw
theorem twf_nil {a : Int} (h1 : 2 ≤ a) (h2 : a ≤ 8) : TWf ⟨a, []⟩ := ⟨h1, h2, by simp, fun i t h => by simp at h, by simp⟩
def buildK (a : Int) (l : List Tm) (k : Nat) : TS := (l.take k).foldl (fun T t => (makeF T t).1) ⟨a, []⟩
def buildF (a : Int) (l : List Tm) : TS := l.foldl (fun T t => (makeF T t).1) ⟨a, []⟩
theorem buildK_succ {a : Int} {l : List Tm} {k : Nat} {t : Tm} (h : l[k]? = some t) : buildK a l (k + 1) = (makeF (buildK a l k) t).1 := by
  unfold buildK
  rw [List.take_add_one, h, List.foldl_append]; rfl
theorem foldl_wf (l : List Tm) : ∀ T, TWf T → TWf (l.foldl (fun T t => (makeF T t).1) T) := by
  induction l with
  | nil => exact fun T h => h
  | cons t l ih => exact fun T h => ih _ (makeF_wf h t)
theorem buildK_wf {a : Int} (h1 : 2 ≤ a) (h2 : a ≤ 8) (l : List Tm) (k : Nat) : TWf (buildK a l k) := foldl_wf _ _ (twf_nil h1 h2)
theorem buildF_wf {a : Int} (h1 : 2 ≤ a) (h2 : a ≤ 8) (l : List Tm) : TWf (buildF a l) := foldl_wf _ _ (twf_nil h1 h2)
theorem foldl_width (l : List Tm) : ∀ T, (l.foldl (fun T t => (makeF T t).1) T).width = T.width := by
  induction l with
  | nil => exact fun T => rfl
  | cons t l ih => exact fun T => (ih _).trans (makeF_width T t)
theorem buildF_width (a : Int) (l : List Tm) : (buildF a l).width = a := foldl_width l _

/-- A list of terms lies behind a slice value. -/
def SlT (w : World) (A : Option Addr) (c : Nat) (l : List Tm) : Prop :=
  l.length ≤ c ∧ c ≤ 9223372036854775807 ∧ (0 < l.length → ∃ b o, A = some ⟨b, o, none⟩ ∧ ∀ (k : Nat) (t : Tm), l[k]? = some t →
    w.cell? ⟨b, o + k * 5, none⟩ = some (.int .i64 t.op) ∧ w.cell? ⟨b, o + k * 5 + 1, none⟩ = some (.int .i64 t.v) ∧ w.cell? ⟨b, o + k * 5 + 2, none⟩ = some (.int .i64 t.a) ∧ w.cell? ⟨b, o + k * 5 + 3, none⟩ = some (.int .i64 t.b) ∧ w.cell? ⟨b, o + k * 5 + 4, none⟩ = some (.int .i64 t.c))
theorem SlT.big {w : World} {A : Option Addr} {c : Nat} {l : List Tm} (h : SlT w A c l) : l.length ≤ 9223372036854775807 := Nat.le_trans h.1 h.2.1
theorem SlT.below {w w' : World} {A : Option Addr} {c : Nat} {l : List Tm} (h : SlT w A c l) (hb : Below w.heap.size w w') : SlT w' A c l :=
  ⟨h.1, h.2.1, fun hn => let ⟨b, o, h1, h2⟩ := h.2.2 hn; ⟨b, o, h1, fun k t hk => by
    obtain ⟨a0, a1, a2, a3, a4⟩ := h2 k t hk
    exact ⟨(hb.cell (cell_lt a0)).trans a0, (hb.cell (cell_lt a1)).trans a1, (hb.cell (cell_lt a2)).trans a2, (hb.cell (cell_lt a3)).trans a3, (hb.cell (cell_lt a4)).trans a4⟩⟩⟩
theorem TFr.below {B0 p m c : Nat} {A : Option Addr} {T : TS} {w w' : World} (h : TFr p m A w w') (hb : Tb B0 w p m A c T) (hB : B0 ≤ w.heap.size) : Below B0 w w' := (h.fr hb).below hB

def BuildRet (w : World) (a : Int) (l : List Tm) (e : Ending) (w' : World) : Prop :=
  ∃ p m A c, e = .returned (.pointer (some ⟨p, 0, none⟩)) ∧ Tb w.heap.size w' p m A c (buildF a l) ∧ Below w.heap.size w w'

set_option maxRecDepth 100000 in
set_option maxHeartbeats 2000000 in
theorem build77_yes (a : Int) (l : List Tm) (A : Option Addr) (c : Nat) (w : World) (h1 : 2 ≤ a) (h2 : a ≤ 8) (hs : SlT w A c l) :
    Calls Try.prog 77 #[.int .i64 a, .slice A l.length c] w (BuildRet w a l) := by
  have hbig := hs.big
  have HS := Lib.hid hs
  clear hs
  go_enter Try.func77, Try.ntmps77
  go_wp2_with (go_at_call 86; go_must (refine (tnew_yes a w h1 h2).mono ?_; rintro e w1 ⟨p, m, rfl, ht, hb⟩; have HT := Lib.hid ht; have HB1 := Lib.hid hb; clear ht hb))
  go_loopw [8, 18] (fun _ u wr => ∃ k : Nat, k ≤ l.length ∧ u = .int .i64 k ∧ (∃ A' c', Tb w.heap.size wr p m A' c' (buildK a l k)) ∧ Below w.heap.size w wr) (fun _ u _ => l.length - (intOf u).toNat)
  case atStart => exact ⟨0, Nat.zero_le _, rfl, ⟨none, 0, HT.out⟩, HB1.out⟩
  case round =>
    obtain ⟨k, hk, rfl, ⟨A', c', ht⟩, hb⟩ := hrel
    rename_i wr
    have HTR := Lib.hid ht
    have HBR := Lib.hid hb
    by_cases hlt : k < l.length
    · have hx : l[k]? = some l[k] := List.getElem?_eq_getElem hlt
      obtain ⟨bb, o, hA, hcell⟩ := (HS.out.below hb).2.2 (by omega)
      subst hA
      obtain ⟨t, htk⟩ : ∃ t, l[k] = t := ⟨_, rfl⟩
      rw [htk] at hx
      obtain ⟨n0, n1, n2, n3, n4⟩ := hcell k t hx
      have HN : Hid (buildK a l (k + 1) = (makeF (buildK a l k) t).1) := buildK_succ hx
      have hltI : (k : Int) < (l.length : Int) := by omega
      obtain ⟨op, v, x, y, z⟩ := t
      dsimp only at n0 n1 n2 n3 n4
      clear ht hb hcell hx htk
      go_wp2_with (go_at_call 84; go_must (refine (make_any (B0 := w.heap.size) (by have := HBR.out.size; simp; omega) (HTR.out.below (below_alloc wr (.cells #[.int .i64 op, .int .i64 v, .int .i64 x, .int .i64 y, .int .i64 z] 84))) (buildK_wf h1 h2 l k) ⟨op, v, x, y, z⟩).mono ?_; rintro e w3 ⟨A3, c3, rfl, ht3, hf3, -⟩; have HT3 := Lib.hid ht3; have HB3 : Hid (Below w.heap.size w w3) := (HBR.out.trans ((below_alloc wr _).mono HBR.out.size)).trans (hf3.below (HTR.out.below (below_alloc wr (.cells #[.int .i64 op, .int .i64 v, .int .i64 x, .int .i64 y, .int .i64 z] 84))) (by have := HBR.out.size; simp; omega)); clear ht3 hf3))
      go_roundw
      case rel => exact ⟨k + 1, by omega, by go_num, ⟨A3, c3, by rw [HN.out]; exact HT3.out⟩, HB3.out⟩
      case measure => simp [intOf]; omega
    · obtain rfl : k = l.length := by omega
      have HE : Hid (buildK a l l.length = buildF a l) := by show _ = _; unfold buildK; rw [List.take_length]; rfl
      go_wp2
      go_ret
      exact ⟨p, m, A', c', rfl, by rw [← HE.out]; exact HTR.out, HBR.out⟩
theorem build77_no (a : Int) (v : Value) (w : World) (h : a < 2 ∨ 8 < a) :
    Calls Try.prog 77 #[.int .i64 a, v] w fun e w' => e = .returned (.pointer none) ∧ w = w' := by
  go_enter Try.func77, Try.ntmps77
  go_wp2_with (go_at_call 86; go_must (refine (tnew_no a w h).mono ?_; rintro e w1 ⟨rfl, rfl⟩))
  go_ret
  exact ⟨rfl, rfl⟩

set_option maxRecDepth 100000 in
set_option maxHeartbeats 2000000 in
theorem build52_yes (a : Int) (l : List Tm) (A : Option Addr) (c : Nat) (w : World) (h1 : 2 ≤ a) (h2 : a ≤ 8) (hs : SlT w A c l) :
    Calls Try.prog 52 #[.int .i64 a, .slice A l.length c] w (BuildRet w a l) := by
  have hbig := hs.big
  have HS := Lib.hid hs
  clear hs
  go_enter Try.func52, Try.ntmps52
  go_wp2_with (go_at_call 86; go_must (refine (tnew_yes a w h1 h2).mono ?_; rintro e w1 ⟨p, m, rfl, ht, hb⟩; have HT := Lib.hid ht; have HB1 := Lib.hid hb; clear ht hb))
  go_loopw [8, 18] (fun _ u wr => ∃ k : Nat, k ≤ l.length ∧ u = .int .i64 k ∧ (∃ A' c', Tb w.heap.size wr p m A' c' (buildK a l k)) ∧ Below w.heap.size w wr) (fun _ u _ => l.length - (intOf u).toNat)
  case atStart => exact ⟨0, Nat.zero_le _, rfl, ⟨none, 0, HT.out⟩, HB1.out⟩
  case round =>
    obtain ⟨k, hk, rfl, ⟨A', c', ht⟩, hb⟩ := hrel
    rename_i wr
    have HTR := Lib.hid ht
    have HBR := Lib.hid hb
    by_cases hlt : k < l.length
    · have hx : l[k]? = some l[k] := List.getElem?_eq_getElem hlt
      obtain ⟨bb, o, hA, hcell⟩ := (HS.out.below hb).2.2 (by omega)
      subst hA
      obtain ⟨t, htk⟩ : ∃ t, l[k] = t := ⟨_, rfl⟩
      rw [htk] at hx
      obtain ⟨n0, n1, n2, n3, n4⟩ := hcell k t hx
      have HN : Hid (buildK a l (k + 1) = (makeF (buildK a l k) t).1) := buildK_succ hx
      have hltI : (k : Int) < (l.length : Int) := by omega
      obtain ⟨op, v, x, y, z⟩ := t
      dsimp only at n0 n1 n2 n3 n4
      clear ht hb hcell hx htk
      go_wp2_with (go_at_call 84; go_must (refine (make_any (B0 := w.heap.size) (by have := HBR.out.size; simp; omega) (HTR.out.below (below_alloc wr (.cells #[.int .i64 op, .int .i64 v, .int .i64 x, .int .i64 y, .int .i64 z] 84))) (buildK_wf h1 h2 l k) ⟨op, v, x, y, z⟩).mono ?_; rintro e w3 ⟨A3, c3, rfl, ht3, hf3, -⟩; have HT3 := Lib.hid ht3; have HB3 : Hid (Below w.heap.size w w3) := (HBR.out.trans ((below_alloc wr _).mono HBR.out.size)).trans (hf3.below (HTR.out.below (below_alloc wr (.cells #[.int .i64 op, .int .i64 v, .int .i64 x, .int .i64 y, .int .i64 z] 84))) (by have := HBR.out.size; simp; omega)); clear ht3 hf3))
      go_roundw
      case rel => exact ⟨k + 1, by omega, by go_num, ⟨A3, c3, by rw [HN.out]; exact HT3.out⟩, HB3.out⟩
      case measure => simp [intOf]; omega
    · obtain rfl : k = l.length := by omega
      have HE : Hid (buildK a l l.length = buildF a l) := by show _ = _; unfold buildK; rw [List.take_length]; rfl
      go_wp2
      go_ret
      exact ⟨p, m, A', c', rfl, by rw [← HE.out]; exact HTR.out, HBR.out⟩
theorem build52_no (a : Int) (v : Value) (w : World) (h : a < 2 ∨ 8 < a) :
    Calls Try.prog 52 #[.int .i64 a, v] w fun e w' => e = .returned (.pointer none) ∧ w = w' := by
  go_enter Try.func52, Try.ntmps52
  go_wp2_with (go_at_call 86; go_must (refine (tnew_no a w h).mono ?_; rintro e w1 ⟨rfl, rfl⟩))
  go_ret
  exact ⟨rfl, rfl⟩

set_option maxRecDepth 100000 in
set_option maxHeartbeats 2000000 in
theorem build67_yes (a : Int) (l : List Tm) (A : Option Addr) (c : Nat) (w : World) (h1 : 2 ≤ a) (h2 : a ≤ 8) (hs : SlT w A c l) :
    Calls Try.prog 67 #[.int .i64 a, .slice A l.length c] w (BuildRet w a l) := by
  have hbig := hs.big
  have HS := Lib.hid hs
  clear hs
  go_enter Try.func67, Try.ntmps67
  go_wp2_with (go_at_call 86; go_must (refine (tnew_yes a w h1 h2).mono ?_; rintro e w1 ⟨p, m, rfl, ht, hb⟩; have HT := Lib.hid ht; have HB1 := Lib.hid hb; clear ht hb))
  go_loopw [8, 18] (fun _ u wr => ∃ k : Nat, k ≤ l.length ∧ u = .int .i64 k ∧ (∃ A' c', Tb w.heap.size wr p m A' c' (buildK a l k)) ∧ Below w.heap.size w wr) (fun _ u _ => l.length - (intOf u).toNat)
  case atStart => exact ⟨0, Nat.zero_le _, rfl, ⟨none, 0, HT.out⟩, HB1.out⟩
  case round =>
    obtain ⟨k, hk, rfl, ⟨A', c', ht⟩, hb⟩ := hrel
    rename_i wr
    have HTR := Lib.hid ht
    have HBR := Lib.hid hb
    by_cases hlt : k < l.length
    · have hx : l[k]? = some l[k] := List.getElem?_eq_getElem hlt
      obtain ⟨bb, o, hA, hcell⟩ := (HS.out.below hb).2.2 (by omega)
      subst hA
      obtain ⟨t, htk⟩ : ∃ t, l[k] = t := ⟨_, rfl⟩
      rw [htk] at hx
      obtain ⟨n0, n1, n2, n3, n4⟩ := hcell k t hx
      have HN : Hid (buildK a l (k + 1) = (makeF (buildK a l k) t).1) := buildK_succ hx
      have hltI : (k : Int) < (l.length : Int) := by omega
      obtain ⟨op, v, x, y, z⟩ := t
      dsimp only at n0 n1 n2 n3 n4
      clear ht hb hcell hx htk
      go_wp2_with (go_at_call 84; go_must (refine (make_any (B0 := w.heap.size) (by have := HBR.out.size; simp; omega) (HTR.out.below (below_alloc wr (.cells #[.int .i64 op, .int .i64 v, .int .i64 x, .int .i64 y, .int .i64 z] 84))) (buildK_wf h1 h2 l k) ⟨op, v, x, y, z⟩).mono ?_; rintro e w3 ⟨A3, c3, rfl, ht3, hf3, -⟩; have HT3 := Lib.hid ht3; have HB3 : Hid (Below w.heap.size w w3) := (HBR.out.trans ((below_alloc wr _).mono HBR.out.size)).trans (hf3.below (HTR.out.below (below_alloc wr (.cells #[.int .i64 op, .int .i64 v, .int .i64 x, .int .i64 y, .int .i64 z] 84))) (by have := HBR.out.size; simp; omega)); clear ht3 hf3))
      go_roundw
      case rel => exact ⟨k + 1, by omega, by go_num, ⟨A3, c3, by rw [HN.out]; exact HT3.out⟩, HB3.out⟩
      case measure => simp [intOf]; omega
    · obtain rfl : k = l.length := by omega
      have HE : Hid (buildK a l l.length = buildF a l) := by show _ = _; unfold buildK; rw [List.take_length]; rfl
      go_wp2
      go_ret
      exact ⟨p, m, A', c', rfl, by rw [← HE.out]; exact HTR.out, HBR.out⟩
theorem build67_no (a : Int) (v : Value) (w : World) (h : a < 2 ∨ 8 < a) :
    Calls Try.prog 67 #[.int .i64 a, v] w fun e w' => e = .returned (.pointer none) ∧ w = w' := by
  go_enter Try.func67, Try.ntmps67
  go_wp2_with (go_at_call 86; go_must (refine (tnew_no a w h).mono ?_; rintro e w1 ⟨rfl, rfl⟩))
  go_ret
  exact ⟨rfl, rfl⟩

/-! ### The examples -/
def aw0 : Tm := ⟨0, 0, 0, 0, 0⟩
def aw1 : Tm := ⟨2, 1, 0, 0, 0⟩
def aw2 : Tm := ⟨5, 0, 0, 1, 0⟩
def awT : TS := ⟨3, [aw0, aw1, aw2]⟩
theorem aw_m0 : makeF ⟨3, []⟩ aw0 = (⟨3, [aw0]⟩, 0, 0) := by rfl
theorem aw_m1 : makeF ⟨3, [aw0]⟩ aw1 = (⟨3, [aw0, aw1]⟩, 1, 0) := by rfl
theorem aw_m2 : makeF ⟨3, [aw0, aw1]⟩ aw2 = (awT, 2, 0) := by rfl
theorem aw_wf0 : TWf ⟨3, [aw0]⟩ := by have := makeF_wf (twf_nil (a := 3) (by omega) (by omega)) aw0; rwa [aw_m0] at this
theorem aw_wf1 : TWf ⟨3, [aw0, aw1]⟩ := by have := makeF_wf aw_wf0 aw1; rwa [aw_m1] at this
theorem aw_wf : TWf awT := by have := makeF_wf aw_wf1 aw2; rwa [aw_m2] at this
theorem aw_ev : evalF awT [3] 2 = (-4, 0) := by decide
theorem aw_parts : partsN awT 2 = [0, 1, 2] := by decide
theorem aw_inp : inputsF awT (partsN awT 2) = [0] := by
  refine sorted_unique (inputsF_sorted _ _) (by simp) fun x => ?_
  rw [inputsF_mem, aw_parts]
  simp only [List.mem_cons, List.not_mem_nil, or_false, exists_eq_or_imp, exists_eq_left]
  have i0 : isInp awT 0 = some 0 := by decide
  have i1 : isInp awT 1 = none := by decide
  have i2 : isInp awT 2 = none := by decide
  rw [i0, i1, i2]
  simp
  exact eq_comm
theorem aw_div : quoW 3 (-4) (-1) = -4 := by decide
theorem aw_rem : remW 3 (-4) (-1) = 0 := by decide
theorem aw_wrap : wrapW 3 5 = -3 := by decide
set_option maxRecDepth 100000 in
set_option maxHeartbeats 4000000 in
theorem awake22 (w : World) : Calls Try.prog 76 #[] w fun e w' => e = .returned (.bool true) ∧ Below w.heap.size w w' := by
  have hs : sortF aw2.op = 0 := rfl
  have HS := Lib.hid hs
  clear hs
  go_enter Try.func76, Try.ntmps76
  go_wp2_with (first
    | (go_at_call 86; go_must (refine (tnew_yes 3 w (by omega) (by omega)).mono ?_; rintro e w1 ⟨p, m, rfl, ht, hb⟩; have HT1 := Lib.hid ht; have HB1 := Lib.hid hb; clear ht hb))
    | (go_at_call 84; have _t := HT3; go_must (refine (make_any (B0 := w.heap.size) (HB3.out.size) HT3.out aw_wf1 aw2).mono ?_; rw [aw_m2]; rintro e w4 ⟨A4, c4, rfl, ht, hf, -⟩; have HT4 := Lib.hid ht; have HB4 : Hid (Below w.heap.size w w4) := HB3.out.trans (hf.below HT3.out HB3.out.size); clear ht hf))
    | (go_at_call 84; have _t := HT2; go_must (refine (make_any (B0 := w.heap.size) (HB2.out.size) HT2.out aw_wf0 aw1).mono ?_; rw [aw_m1]; rintro e w3 ⟨A3, c3, rfl, ht, hf, -⟩; have HT3 := Lib.hid ht; have HB3 : Hid (Below w.heap.size w w3) := HB2.out.trans (hf.below HT2.out HB2.out.size); clear ht hf))
    | (go_at_call 84; go_must (refine (make_any (B0 := w.heap.size) (HB1.out.size) HT1.out (twf_nil (by omega) (by omega)) aw0).mono ?_; rw [aw_m0]; rintro e w2 ⟨A2, c2, rfl, ht, hf, -⟩; have HT2 := Lib.hid ht; have HB2 : Hid (Below w.heap.size w w2) := HB1.out.trans (hf.below HT1.out HB1.out.size); clear ht hf))
    | (go_at_call 58; go_must (refine (eval_any (inp := [3]) (HT4.out.below (below_alloc w4 (.cells #[.int .i64 3] 3))) aw_wf (sl_new (Value.int .i64) 3 w4 _ [3] (by simp)) 2).mono ?_; rw [aw_ev]; rintro e w5 ⟨rfl, hb⟩; have hb' := below_of1 hb; have HT5 := Lib.hid (HT4.out.below hb'); have HB5 : Hid (Below w.heap.size w w5) := HB4.out.trans (hb'.mono HB4.out.size); clear hb hb'))
    | (go_at_call 48; go_must (refine (bdiv_v aw_div aw_rem _).mono ?_; rintro e w' ⟨rfl, rfl⟩))
    | (go_at_call 60; go_must (refine (tsort_yes HT5.out (k := 2) (t := aw2) rfl).mono ?_; rw [HS.out]; rintro e w6 ⟨rfl, hb⟩; have HT6 := Lib.hid (HT5.out.below hb); have HB6 : Hid (Below w.heap.size w w6) := HB5.out.trans (hb.mono HB5.out.size); clear hb))
    | (go_at_call 25; go_must (refine (wrap_v aw_wrap _).mono ?_; rintro e w' ⟨rfl, rfl⟩))
    | (go_at_call 57; go_must (refine (tlen_any HT6.out).mono ?_; rintro e w' ⟨rfl, rfl⟩))
    | (go_at_call 87; go_must (refine (twidth_any HT6.out).mono ?_; rintro e w' ⟨rfl, rfl⟩))
    | (go_at_call 59; go_must (refine (size_yes HT6.out aw_wf (i := 2) (t0 := aw2) rfl).mono ?_; rw [aw_parts]; rintro e w7 ⟨rfl, hb⟩; have HT7 := Lib.hid (HT6.out.below hb); have HB7 : Hid (Below w.heap.size w w7) := HB6.out.trans (hb.mono HB6.out.size); clear hb))
    | (go_at_call 61; go_must (refine (inputs_yes HT7.out aw_wf (i := 2) (t0 := aw2) rfl).mono ?_; rw [aw_inp]; rintro e w8 ⟨v8, rfl, ho, hb⟩; obtain ⟨A8, c8, rfl, -⟩ := ho.sl 0; have HB8 : Hid (Below w.heap.size w w8) := HB7.out.trans (hb.mono HB7.out.size); clear hb ho)))
  go_ret
  exact ⟨rfl, HB8.out⟩
end Go.Proofs.Ytgmcajojigedaaa
