/- The walk of the law BitvecEvals (printed by genwl.py). -/
import Derived.Test.YtgmcajojigedaaaWi
import Derived.Test.YtgmcajojigedaaaWj
import Derived.Test.YtgmcajojigedaaaEa
set_option linter.unusedSimpArgs false
set_option linter.unusedVariables false
namespace Go.Proofs.Ytgmcajojigedaaa
open Go.RowKit

section
variable {P : Program} {ops : Array Oper} {Q : Exit → Act → World → Prop} {loud : List Nat} {sq : List (Nat × (World → Prop))}
/-- Two loud operations may come up now. -/
theorem wpG_two {i j : Nat} {oi oj : Oper} {fuel : Nat} {listed : Array Bool} {a : Act} {w : World} (hi : ops[i]? = some oi) (hj : ops[j]? = some oj)
    (hgi : Region.wanted oi (yielded ops a.tmps) = true) (hgj : Region.wanted oj (yielded ops a.tmps) = true) (hli : loud.contains i = true) (hlj : loud.contains j = true)
    (hr : Region.ready .any ops listed = [i, j])
    (h1 : ∀ K : Act → World → Prop, (∀ a' w', (∀ p ∈ sq, waitsB ops i p.1 = false → p.2 w') → wpG P ops Q loud sq fuel (listed.setIfInBounds i true) a' w' → K a' w') → oi.wp P a w K Q)
    (h2 : ∀ K : Act → World → Prop, (∀ a' w', (∀ p ∈ sq, waitsB ops j p.1 = false → p.2 w') → wpG P ops Q loud sq fuel (listed.setIfInBounds j true) a' w' → K a' w') → oj.wp P a w K Q) :
    wpG P ops Q loud sq (fuel + 1) listed a w := by
  refine ⟨fun h0 => (by rw [h0] at hr; cases hr), fun k hk => ?_⟩
  rw [hr] at hk
  simp only [List.mem_cons, List.not_mem_nil, or_false] at hk
  rcases hk with rfl | rfl
  · unfold wpOp
    simp only [hi]
    rw [if_pos hgi]
    exact .inl (h1 _ fun a' w' ho hrest => ⟨by unfold Owes; rw [if_pos hli]; exact ho, hrest⟩)
  · unfold wpOp
    simp only [hj]
    rw [if_pos hgj]
    exact .inl (h2 _ fun a' w' ho hrest => ⟨by unfold Owes; rw [if_pos hlj]; exact ho, hrest⟩)
end
theorem src_of {w : World} {B : Nat} {A : Option Addr} {c : Nat} {xs : List Int} (h : SlI w B A c xs) {n : Nat} (hn : n = xs.length) : 0 < n → ∃ ad, A = some ad ∧ ∀ j u, (xs.map (Value.int .i64))[j]? = some u → w.cell? (ad.add j) = some u := fun h0 => by
  obtain ⟨b, o, rfl, _, hc⟩ := h.2.2 (by omega)
  refine ⟨_, rfl, fun j u hu => ?_⟩
  rw [List.getElem?_map] at hu
  rcases hx : xs[j]? with _ | x
  · rw [hx] at hu; cases hu
  · rw [hx] at hu
    cases hu
    rw [Addr.add_lit]
    exact hc j x hx
def listL (odd : Int) (n : Nat) : List Int := [odd, -1, (n : Int)] ++ natsL n
theorem evals_start {odd : Int} {n : Nat} : (listL odd n).length = n + 3 := by unfold listL; rw [List.length_append, natsL_length]; simp; omega

set_option maxRecDepth 100000 in
set_option maxHeartbeats 8000000 in
theorem evals_yes (q : Int) (l : List Tm) (inp : List Int) (odd : Int) (A A2 : Option Addr) (c c2 : Nat) (w : World) (h1 : 2 ≤ q) (h2 : q ≤ 8) (hl : l.length ≤ 40) (hs : SlT w A c l) (hin : SlI w w.heap.size A2 c2 inp) :
    Calls Try.prog 14 #[.int .i64 q, .slice A l.length c, .slice A2 inp.length c2, .int .i64 odd] w fun e w' => e = .returned (.bool true) ∧ Below w.heap.size w w' := by
  have HS := Lib.hid hs
  have HIN := Lib.hid hin
  have d1 : decide ((l.length : Int) > 40) = false := decide_eq_false (by omega)
  have d1' : decide (40 < l.length) = false := decide_eq_false (by omega)
  obtain ⟨T, hT⟩ : ∃ T, buildF q l = T := ⟨_, rfl⟩
  have hw : TWf T := by rw [← hT]; exact buildF_wf h1 h2 l
  have hwd : T.width = q := by rw [← hT]; exact buildF_width q l
  have HT := Lib.hid hT
  have hsz := hw.size
  subst hwd
  clear hs hin hT
  go_enter Try.func14, Try.ntmps14
  go_upto_region 6 with (first
    | (go_at_call 76; go_must (refine (awake22 _).mono ?_; rintro e w1 ⟨rfl, hb1⟩; have HB1 := Lib.hid hb1; clear hb1))
    | (go_at_call 23; go_must (refine (isWidth_yes _ _ h1 h2).mono ?_; rintro e w' ⟨rfl, rfl⟩))
    | (go_at_call 77; go_must (refine (build77_yes T.width l A c w1 h1 h2 (HS.out.below HB1.out)).mono ?_; unfold BuildRet; rw [HT.out]; rintro e w2 ⟨p, m, At, ct, rfl, ht, hb2⟩; have HTB := Lib.hid ht; have HB2 : Hid (Below w.heap.size w w2) := HB1.out.trans (hb2.mono HB1.out.size); clear ht hb2))
    | (go_at_call 53; go_must (refine (rbuild_yes T.width l A c w2 h1 h2 (HS.out.below HB2.out)).mono ?_; rw [HT.out]; rintro e w3 ⟨Ar, cr, rfl, hsr, -, hb3⟩; have HSR := Lib.hid hsr; have HTB3 := Lib.hid (HTB.out.below hb3); have HB3 : Hid (Below w.heap.size w w3) := HB2.out.trans (hb3.mono HB2.out.size); clear hsr hb3)))
  have hb4 := below_alloc w3 (.cells #[.int .i64 T.width, .slice Ar T.nodes.length cr] 66)
  have hx4 := heap_alloc_new w3 (.cells #[.int .i64 T.width, .slice Ar T.nodes.length cr] 66)
  obtain ⟨B, hB⟩ : ∃ B, w3.heap.size = B := ⟨_, rfl⟩
  obtain ⟨w4, hw4⟩ : ∃ w4 : World, w3.alloc (.cells #[.int .i64 T.width, .slice Ar T.nodes.length cr] 66) = w4 := ⟨_, rfl⟩
  rw [hB] at hx4
  rw [hw4] at hb4 hx4 ⊢
  try rw [hB]
  have HT4 := Lib.hid (HTB3.out.below hb4)
  have HS4 := Lib.hid (HSR.out.below hb4)
  have HB4 : Hid (Below w.heap.size w w4) := HB3.out.trans (hb4.mono HB3.out.size)
  have c1 : w4.cell? ⟨B, 1, none⟩ = some (.slice Ar T.nodes.length cr) := by simp [World.cell?, hx4]
  have HC1 := Lib.hid c1
  have HX4 := Lib.hid hx4
  clear hw4 hB hb4 hx4 HB1 HTB HB2 HTB3 HSR HB3 d1 d1'
  refine wp_region_G [4, 8, 9] [(2, fun w' => w'.cell? ⟨B, 1, none⟩ = some (.slice Ar T.nodes.length cr)), (6, fun w' => w'.cell? ⟨B, 1, none⟩ = some (.slice Ar T.nodes.length cr))] (by kernel_rfl) ?_
  refine wpG_take (i := 0) (v := ?_) rfl (by kernel_rfl) rfl (by kernel_rfl) (by kernel_rfl) (fun _ _ _ h => h) (by rfl) ?_ (asks_none rfl _) ?_
  rotate_left
  · intro w _; go_simp; rfl
  simp only [Act.put, List.getElem_toArray, List.getElem_cons_zero, List.getElem_cons_succ, List.setIfInBounds_toArray, List.set_cons_zero, List.set_cons_succ]
  refine wpG_take (i := 1) (v := ?_) rfl (by kernel_rfl) rfl (by kernel_rfl) (by kernel_rfl) (fun _ _ _ h => h) (by rfl) ?_ (asks_none rfl _) ?_
  rotate_left
  · intro w _; go_simp; rfl
  simp only [Act.put, List.getElem_toArray, List.getElem_cons_zero, List.getElem_cons_succ, List.setIfInBounds_toArray, List.set_cons_zero, List.set_cons_succ]
  refine wpG_take (i := 2) (v := ?_) rfl (by kernel_rfl) rfl (by kernel_rfl) (by kernel_rfl) (fun _ _ _ h => h) (by rfl) ?_ (by simp [asksOf]; exact c1) ?_
  rotate_left
  · intro w hw; simp [asksOf] at hw; go_simp; rfl
  simp only [Act.put, List.getElem_toArray, List.getElem_cons_zero, List.getElem_cons_succ, List.setIfInBounds_toArray, List.set_cons_zero, List.set_cons_succ]
  refine wpG_take (i := 3) (v := ?_) rfl (by kernel_rfl) rfl (by kernel_rfl) (by kernel_rfl) (fun _ _ _ h => h) (by rfl) ?_ (asks_none rfl _) ?_
  rotate_left
  · intro w _; go_simp; rfl
  simp only [Act.put, List.getElem_toArray, List.getElem_cons_zero, List.getElem_cons_succ, List.setIfInBounds_toArray, List.set_cons_zero, List.set_cons_succ]
  refine wpG_take (i := 5) (v := ?_) rfl (by kernel_rfl) rfl (by kernel_rfl) (by kernel_rfl) (fun _ _ _ h => h) (by rfl) ?_ (asks_none rfl _) ?_
  rotate_left
  · intro w _; go_simp; rfl
  simp only [Act.put, List.getElem_toArray, List.getElem_cons_zero, List.getElem_cons_succ, List.setIfInBounds_toArray, List.set_cons_zero, List.set_cons_succ]
  refine wpG_take (i := 6) (v := ?_) rfl (by kernel_rfl) rfl (by kernel_rfl) (by kernel_rfl) (fun _ _ _ h => h) (by rfl) ?_ (by simp [asksOf]; exact c1) ?_
  rotate_left
  · intro w hw; simp [asksOf] at hw; go_simp; rfl
  simp only [Act.put, List.getElem_toArray, List.getElem_cons_zero, List.getElem_cons_succ, List.setIfInBounds_toArray, List.set_cons_zero, List.set_cons_succ]
  refine wpG_take (i := 7) (v := ?_) rfl (by kernel_rfl) rfl (by kernel_rfl) (by kernel_rfl) (fun _ _ _ h => h) (by rfl) ?_ (asks_none rfl _) ?_
  rotate_left
  · intro w _; go_simp; rfl
  simp only [Act.put, List.getElem_toArray, List.getElem_cons_zero, List.getElem_cons_succ, List.setIfInBounds_toArray, List.set_cons_zero, List.set_cons_succ]
  refine wpG_take (i := 11) (v := ?_) rfl (by kernel_rfl) rfl (by kernel_rfl) (by kernel_rfl) (fun _ _ _ h => h) (by rfl) ?_ (asks_none rfl _) ?_
  rotate_left
  · intro w _; go_simp; rfl
  simp only [Act.put, List.getElem_toArray, List.getElem_cons_zero, List.getElem_cons_succ, List.setIfInBounds_toArray, List.set_cons_zero, List.set_cons_succ]
  refine wpG_two (i := 4) (j := 8) rfl rfl rfl rfl rfl rfl (by kernel_rfl) (fun K hK => ?_) (fun K hK => ?_)
  go_simp
  have hown : OwnI (w4.drew.alloc (.cells #[.int .i64 odd, .int .i64 (-1), .int .i64 T.nodes.length] 3)) w4.heap.size (.slice (some ⟨w4.heap.size, 0, none⟩) 3 3) [odd, -1, (T.nodes.length : Int)] := own_new (Value.int .i64) 3 w4.drew w4.heap.size (Nat.le_refl _) [odd, -1, (T.nodes.length : Int)] (by simp)
  have hbA : Below w4.heap.size w4 (w4.drew.alloc (.cells #[.int .i64 odd, .int .i64 (-1), .int .i64 T.nodes.length] 3)) := (Below.refl w4.heap.size w4).drew.alloc (Nat.le_refl _) _
  have cA : (w4.drew.alloc (.cells #[.int .i64 odd, .int .i64 (-1), .int .i64 T.nodes.length] 3)).cell? ⟨B, 1, none⟩ = some (.slice Ar T.nodes.length cr) := (hbA.cell (cell_lt HC1.out)).trans HC1.out
  have HOW := Lib.hid hown
  have HBA := Lib.hid hbA
  clear hown hbA
  refine hK _ _ ?_ ?_
  · intro q hq hwt; simp only [List.mem_cons, List.not_mem_nil, or_false] at hq; rcases hq with rfl | rfl
    · exact cA
    · exact cA
  clear hK K cA
  try simp only [Act.put, List.getElem_toArray, List.getElem_cons_zero, List.getElem_cons_succ, List.setIfInBounds_toArray, List.set_cons_zero, List.set_cons_succ]
  refine wpG_loud (i := 8) rfl rfl rfl (by kernel_rfl) (fun K hK => ?_)
  go_simp
  refine (counting_any T.nodes.length (by omega) _).mono ?_
  rintro e w6 ⟨v6, rfl, ho6, hb6⟩
  obtain ⟨A6, c6, rfl, hs6⟩ := ho6.sl w6.heap.size
  rw [natsL_length]
  have HB6 : Hid (Below w4.heap.size w4 w6) := HBA.out.trans (hb6.mono HBA.out.size)
  have HOA : Hid (OwnI w6 w4.heap.size (.slice (some ⟨w4.heap.size, 0, none⟩) 3 3) [odd, -1, (T.nodes.length : Int)]) := HOW.out.below hb6
  have HSRC := Lib.hid (src_of hs6 (natsL_length T.nodes.length).symm)
  have c6' : w6.cell? ⟨B, 1, none⟩ = some (.slice Ar T.nodes.length cr) := (HB6.out.cell (cell_lt HC1.out)).trans HC1.out
  clear ho6 hb6 hs6
  refine hK _ _ ?_ ?_
  · intro q hq hwt; simp only [List.mem_cons, List.not_mem_nil, or_false] at hq; rcases hq with rfl | rfl
    · exact c6'
    · exact c6'
  clear hK K c6'
  try simp only [Act.put, List.getElem_toArray, List.getElem_cons_zero, List.getElem_cons_succ, List.setIfInBounds_toArray, List.set_cons_zero, List.set_cons_succ]
  refine wpG_loud (i := 9) rfl rfl rfl (by kernel_rfl) (fun K hK => ?_)
  refine wp_append_src _ _ _ _ (by rfl) w4.heap.size 3 _ 1 8 Try.underlying24 Try.info3 rfl (by decide) _ _ _ HOA.out (by rfl) A6 T.nodes.length c6 ((natsL T.nodes.length).map (Value.int .i64)) (by rfl) (by rw [List.length_map, natsL_length]; omega) HSRC.out (by intro u hu; obtain ⟨x, _, rfl⟩ := List.mem_map.1 hu; rfl) ?b1 ?b2 ?b3 ?_
  case b1 => unfold maxLen; simp; omega
  case b2 => simp; omega
  case b3 => have := HB6.out.size; omega
  intro v7 w7 hown7 hgrow
  have hb7 : Below w4.heap.size w4 w7 := HB6.out.grown hgrow HB6.out.size (fun q hq => (HOA.out.lt q hq).1)
  have HB7 := Lib.hid hb7
  have c17 : w7.cell? ⟨B, 1, none⟩ = some (.slice Ar T.nodes.length cr) := (hb7.cell (cell_lt HC1.out)).trans HC1.out
  have ho7 : OwnI w7 w4.heap.size v7 (listL odd T.nodes.length) := by
    unfold OwnI OwnOf listL
    rw [List.length_append, List.map_append]
    rw [show (natsL T.nodes.length).length = T.nodes.length from natsL_length _]
    exact hown7
  obtain ⟨A7, c7, rfl, hs7⟩ := ho7.sl w7.heap.size
  have HS7 := Lib.hid hs7
  clear hown7 hgrow hb7 ho7 hs7
  refine hK _ _ ?_ ?_
  · intro q hq hwt; simp only [List.mem_cons, List.not_mem_nil, or_false] at hq; rcases hq with rfl | rfl
    · exact c17
    · exact c17
  clear hK K c17
  try simp only [Act.put, List.getElem_toArray, List.getElem_cons_zero, List.getElem_cons_succ, List.setIfInBounds_toArray, List.set_cons_zero, List.set_cons_succ]
  refine wpG_take (i := 10) (v := ?_) rfl (by kernel_rfl) rfl (by kernel_rfl) (by kernel_rfl) (fun _ _ _ h => h) (by rfl) ?_ (asks_none rfl _) ?_
  rotate_left
  · intro w _; go_simp; rfl
  simp only [Act.put, List.getElem_toArray, List.getElem_cons_zero, List.getElem_cons_succ, List.setIfInBounds_toArray, List.set_cons_zero, List.set_cons_succ]
  refine wpG_done (by kernel_rfl) ?_
  rotate_left
  go_simp
  refine (counting_any T.nodes.length (by omega) _).mono ?_
  rintro e w5 ⟨v6, rfl, ho6, hb6⟩
  obtain ⟨A6, c6, rfl, hs6⟩ := ho6.sl w5.heap.size
  rw [natsL_length]
  have hb5 : Below w4.heap.size w4 w5 := (Below.refl w4.heap.size w4).drew.trans hb6
  have HB5 := Lib.hid hb5
  have HS6 := Lib.hid hs6
  have c5 : w5.cell? ⟨B, 1, none⟩ = some (.slice Ar T.nodes.length cr) := (hb5.cell (cell_lt HC1.out)).trans HC1.out
  clear ho6 hb6 hs6 hb5
  refine hK _ _ ?_ ?_
  · intro q hq hwt; simp only [List.mem_cons, List.not_mem_nil, or_false] at hq; rcases hq with rfl | rfl
    · exact c5
    · exact c5
  clear hK K c5
  try simp only [Act.put, List.getElem_toArray, List.getElem_cons_zero, List.getElem_cons_succ, List.setIfInBounds_toArray, List.set_cons_zero, List.set_cons_succ]
  refine wpG_loud (i := 4) rfl rfl rfl (by kernel_rfl) (fun K hK => ?_)
  go_simp
  have HOA : Hid (OwnI (w5.alloc (.cells #[.int .i64 odd, .int .i64 (-1), .int .i64 T.nodes.length] 3)) w4.heap.size (.slice (some ⟨w5.heap.size, 0, none⟩) 3 3) [odd, -1, (T.nodes.length : Int)]) := own_new (Value.int .i64) 3 w5 w4.heap.size HB5.out.size [odd, -1, (T.nodes.length : Int)] (by simp)
  have HB6 : Hid (Below w4.heap.size w4 (w5.alloc (.cells #[.int .i64 odd, .int .i64 (-1), .int .i64 T.nodes.length] 3))) := HB5.out.trans ((below_alloc _ _).mono HB5.out.size)
  have HSRC := Lib.hid (src_of (HS6.out.below (below_alloc w5 (.cells #[.int .i64 odd, .int .i64 (-1), .int .i64 T.nodes.length] 3))) (natsL_length T.nodes.length).symm)
  have c6' : (w5.alloc (.cells #[.int .i64 odd, .int .i64 (-1), .int .i64 T.nodes.length] 3)).cell? ⟨B, 1, none⟩ = some (.slice Ar T.nodes.length cr) := (HB6.out.cell (cell_lt HC1.out)).trans HC1.out
  refine hK _ _ ?_ ?_
  · intro q hq hwt; simp only [List.mem_cons, List.not_mem_nil, or_false] at hq; rcases hq with rfl | rfl
    · exact c6'
    · exact c6'
  clear hK K c6'
  try simp only [Act.put, List.getElem_toArray, List.getElem_cons_zero, List.getElem_cons_succ, List.setIfInBounds_toArray, List.set_cons_zero, List.set_cons_succ]
  refine wpG_loud (i := 9) rfl rfl rfl (by kernel_rfl) (fun K hK => ?_)
  refine wp_append_src _ _ _ _ (by rfl) w4.heap.size 3 _ 1 8 Try.underlying24 Try.info3 rfl (by decide) _ _ _ HOA.out (by rfl) A6 T.nodes.length c6 ((natsL T.nodes.length).map (Value.int .i64)) (by rfl) (by rw [List.length_map, natsL_length]; omega) HSRC.out (by intro u hu; obtain ⟨x, _, rfl⟩ := List.mem_map.1 hu; rfl) ?b1 ?b2 ?b3 ?_
  case b1 => unfold maxLen; simp; omega
  case b2 => simp; omega
  case b3 => have := HB6.out.size; omega
  intro v7 w7 hown7 hgrow
  have hb7 : Below w4.heap.size w4 w7 := HB6.out.grown hgrow HB6.out.size (fun q hq => (HOA.out.lt q hq).1)
  have HB7 := Lib.hid hb7
  have c17 : w7.cell? ⟨B, 1, none⟩ = some (.slice Ar T.nodes.length cr) := (hb7.cell (cell_lt HC1.out)).trans HC1.out
  have ho7 : OwnI w7 w4.heap.size v7 (listL odd T.nodes.length) := by
    unfold OwnI OwnOf listL
    rw [List.length_append, List.map_append]
    rw [show (natsL T.nodes.length).length = T.nodes.length from natsL_length _]
    exact hown7
  obtain ⟨A7, c7, rfl, hs7⟩ := ho7.sl w7.heap.size
  have HS7 := Lib.hid hs7
  clear hown7 hgrow hb7 ho7 hs7
  refine hK _ _ ?_ ?_
  · intro q hq hwt; simp only [List.mem_cons, List.not_mem_nil, or_false] at hq; rcases hq with rfl | rfl
    · exact c17
    · exact c17
  clear hK K c17
  try simp only [Act.put, List.getElem_toArray, List.getElem_cons_zero, List.getElem_cons_succ, List.setIfInBounds_toArray, List.set_cons_zero, List.set_cons_succ]
  refine wpG_take (i := 10) (v := ?_) rfl (by kernel_rfl) rfl (by kernel_rfl) (by kernel_rfl) (fun _ _ _ h => h) (by rfl) ?_ (asks_none rfl _) ?_
  rotate_left
  · intro w _; go_simp; rfl
  simp only [Act.put, List.getElem_toArray, List.getElem_cons_zero, List.getElem_cons_succ, List.setIfInBounds_toArray, List.set_cons_zero, List.set_cons_succ]
  refine wpG_done (by kernel_rfl) ?_
  all_goals
    have HT7 := Lib.hid (HT4.out.below HB7.out)
    have HS8 := Lib.hid (HS4.out.below HB7.out)
    have HIN7 := Lib.hid (HIN.out.below (HB4.out.trans (HB7.out.mono HB4.out.size)))
    have HBW : Hid (Below w.heap.size w w7) := HB4.out.trans (HB7.out.mono HB4.out.size)
    have hx7 := (HB7.out.block _ (lt_of_some HX4.out)).trans HX4.out
    have HC : Hid (∀ W, Below w7.heap.size w7 W → W.cell? ⟨B, 0, none⟩ = some (.int .i64 T.width) ∧ W.cell? ⟨B, 1, none⟩ = some (.slice Ar T.nodes.length cr)) := fun W hb => by
      have := (hb.block _ (lt_of_some hx7)).trans hx7
      exact ⟨by simp [World.cell?, this], by simp [World.cell?, this]⟩
    obtain ⟨L, hL⟩ : ∃ L, listL odd T.nodes.length = L := ⟨_, rfl⟩
    have hLl : L.length = T.nodes.length + 3 := by rw [← hL]; exact evals_start
    have hLb : L.length ≤ 1000000 := by omega
    rw [hL] at HS7 ⊢
    clear hL hLl hx7 HB6 HOA HSRC HX4 HC1 c1 HT4 HS4 HB7 HB4
    go_wp2
    go_loopw [12, 13, 14, 15, 16, 44, 48, 55] (fun _ _ _ _ _ u _ _ wr => ∃ (W : World) (k : Nat), W = wr ∧ k ≤ L.length ∧ u = .int .i64 k ∧ Below w7.heap.size w7 W) (fun _ _ _ _ _ u _ _ _ => L.length - (intOf u).toNat)
    case atStart => exact ⟨_, 0, rfl, Nat.zero_le _, rfl, Below.refl _ _⟩
    case round =>
      obtain ⟨wr, k, rfl, hk, rfl, hbw⟩ := hrel
      have HBR := Lib.hid hbw
      by_cases hlt : k < L.length
      · have hltI : (k : Int) < (L.length : Int) := by omega
        obtain ⟨bl, ol, i, hA, hx, hcl⟩ := (HS7.out.below hbw).at_ hlt
        obtain ⟨x1, y1, hev⟩ : ∃ x y, evalF T inp i = (x, y) := ⟨_, _, rfl⟩
        have HEV := Lib.hid hev
        obtain ⟨X, hX⟩ : ∃ X, inputsF T (partsF T i) = X := ⟨_, rfl⟩
        have HX := Lib.hid hX
        have HA := Lib.hid hA
        obtain ⟨N, hN⟩ : ∃ N, L.length = N := ⟨_, rfl⟩
        rw [hN] at hlt hk hLb ⊢
        try rw [hA]
        have HN := Lib.hid hN
        have c0r := (HC.out wr hbw).1
        have c1r := (HC.out wr hbw).2
        clear hbw hx hev hX hA hN
        go_upto_region 11 with (first
          | (go_at_call 58; go_must (refine (eval_any (HT7.out.below HBR.out) hw (HIN7.out.more (by have := HBW.out.size; have := HBR.out.size; omega) |>.below HBR.out) i).mono ?_; rw [HEV.out]; rintro e w8 ⟨rfl, hb8⟩; dsimp only; have HB8 : Hid (Below w7.heap.size w7 w8) := HBR.out.trans (hb8.mono HBR.out.size); have c0' := (HC.out _ HB8.out).1; have c1' := (HC.out _ HB8.out).2; clear hb8))
          | (go_at_call 74; go_must (refine (reval_any (HS8.out.below HB8.out) hw (HIN7.out.more (by have := HBW.out.size; have := HB8.out.size; omega) |>.below HB8.out) i).mono ?_; rw [HEV.out]; rintro e w9 ⟨rfl, hb9⟩; dsimp only; have HB9 : Hid (Below w7.heap.size w7 w9) := HB8.out.trans (hb9.mono HB8.out.size); clear hb9)))
        refine wp_region_G [11, 14, 15, 21, 24] [(12, fun w' => w'.cell? ⟨B, 0, none⟩ = some (.int .i64 T.width) ∧ w'.cell? ⟨B, 1, none⟩ = some (.slice Ar T.nodes.length cr)), (22, fun w' => w'.cell? ⟨B, 0, none⟩ = some (.int .i64 T.width) ∧ w'.cell? ⟨B, 1, none⟩ = some (.slice Ar T.nodes.length cr))] (by kernel_rfl) ?_
        refine wpG_take (i := 0) (v := ?_) rfl (by kernel_rfl) rfl (by kernel_rfl) (by kernel_rfl) (fun _ _ _ h => h) (by rfl) ?_ (asks_none rfl _) ?_
        rotate_left
        · intro w _; go_simp; rfl
        simp only [Act.put, List.getElem_toArray, List.getElem_cons_zero, List.getElem_cons_succ, List.setIfInBounds_toArray, List.set_cons_zero, List.set_cons_succ]
        refine wpG_take (i := 1) (v := ?_) rfl (by kernel_rfl) rfl (by kernel_rfl) (by kernel_rfl) (fun _ _ _ h => h) (by rfl) ?_ (asks_none rfl _) ?_
        rotate_left
        · intro w _; go_simp; rfl
        simp only [Act.put, List.getElem_toArray, List.getElem_cons_zero, List.getElem_cons_succ, List.setIfInBounds_toArray, List.set_cons_zero, List.set_cons_succ]
        refine wpG_take (i := 2) (v := ?_) rfl (by kernel_rfl) rfl (by kernel_rfl) (by kernel_rfl) (fun _ _ _ h => h) (by rfl) ?_ (asks_none rfl _) ?_
        rotate_left
        · intro w _; go_simp; rfl
        simp only [Act.put, List.getElem_toArray, List.getElem_cons_zero, List.getElem_cons_succ, List.setIfInBounds_toArray, List.set_cons_zero, List.set_cons_succ]
        refine wpG_take (i := 3) (v := ?_) rfl (by kernel_rfl) rfl (by kernel_rfl) (by kernel_rfl) (fun _ _ _ h => h) (by rfl) ?_ (asks_none rfl _) ?_
        rotate_left
        · intro w _; go_simp; rfl
        simp only [Act.put, List.getElem_toArray, List.getElem_cons_zero, List.getElem_cons_succ, List.setIfInBounds_toArray, List.set_cons_zero, List.set_cons_succ]
        refine wpG_take (i := 4) (v := ?_) rfl (by kernel_rfl) rfl (by kernel_rfl) (by kernel_rfl) (fun _ _ _ h => h) (by rfl) ?_ (asks_none rfl _) ?_
        rotate_left
        · intro w _; go_simp; rfl
        simp only [Act.put, List.getElem_toArray, List.getElem_cons_zero, List.getElem_cons_succ, List.setIfInBounds_toArray, List.set_cons_zero, List.set_cons_succ]
        refine wpG_take (i := 5) (v := ?_) rfl (by kernel_rfl) rfl (by kernel_rfl) (by kernel_rfl) (fun _ _ _ h => h) (by rfl) ?_ (asks_none rfl _) ?_
        rotate_left
        · intro w _; go_simp; rfl
        simp only [Act.put, List.getElem_toArray, List.getElem_cons_zero, List.getElem_cons_succ, List.setIfInBounds_toArray, List.set_cons_zero, List.set_cons_succ]
        refine wpG_take (i := 6) (v := ?_) rfl (by kernel_rfl) rfl (by kernel_rfl) (by kernel_rfl) (fun _ _ _ h => h) (by rfl) ?_ (asks_none rfl _) ?_
        rotate_left
        · intro w _; go_simp; rfl
        simp only [Act.put, List.getElem_toArray, List.getElem_cons_zero, List.getElem_cons_succ, List.setIfInBounds_toArray, List.set_cons_zero, List.set_cons_succ]
        refine wpG_take (i := 7) (v := ?_) rfl (by kernel_rfl) rfl (by kernel_rfl) (by kernel_rfl) (fun _ _ _ h => h) (by rfl) ?_ (asks_none rfl _) ?_
        rotate_left
        · intro w _; go_simp; rfl
        simp only [Act.put, List.getElem_toArray, List.getElem_cons_zero, List.getElem_cons_succ, List.setIfInBounds_toArray, List.set_cons_zero, List.set_cons_succ]
        refine wpG_take (i := 8) (v := ?_) rfl (by kernel_rfl) rfl (by kernel_rfl) (by kernel_rfl) (fun _ _ _ h => h) (by rfl) ?_ (asks_none rfl _) ?_
        rotate_left
        · intro w _; go_simp; rfl
        simp only [Act.put, List.getElem_toArray, List.getElem_cons_zero, List.getElem_cons_succ, List.setIfInBounds_toArray, List.set_cons_zero, List.set_cons_succ]
        refine wpG_take (i := 9) (v := ?_) rfl (by kernel_rfl) rfl (by kernel_rfl) (by kernel_rfl) (fun _ _ _ h => h) (by rfl) ?_ (asks_none rfl _) ?_
        rotate_left
        · intro w _; go_simp; rfl
        simp only [Act.put, List.getElem_toArray, List.getElem_cons_zero, List.getElem_cons_succ, List.setIfInBounds_toArray, List.set_cons_zero, List.set_cons_succ]
        refine wpG_take (i := 10) (v := ?_) rfl (by kernel_rfl) rfl (by kernel_rfl) (by kernel_rfl) (fun _ _ _ h => h) (by rfl) ?_ (asks_none rfl _) ?_
        rotate_left
        · intro w _; go_simp; rfl
        simp only [Act.put, List.getElem_toArray, List.getElem_cons_zero, List.getElem_cons_succ, List.setIfInBounds_toArray, List.set_cons_zero, List.set_cons_succ]
        refine wpG_take (i := 12) (v := ?_) rfl (by kernel_rfl) rfl (by kernel_rfl) (by kernel_rfl) (fun _ _ _ h => h) (by rfl) ?_ (by simp [asksOf]; exact HC.out _ HB9.out) ?_
        rotate_left
        · intro w hw; simp [asksOf] at hw; obtain ⟨hw0, hw1⟩ := hw; go_simp; rfl
        simp only [Act.put, List.getElem_toArray, List.getElem_cons_zero, List.getElem_cons_succ, List.setIfInBounds_toArray, List.set_cons_zero, List.set_cons_succ]
        refine wpG_take (i := 13) (v := ?_) rfl (by kernel_rfl) rfl (by kernel_rfl) (by kernel_rfl) (fun _ _ _ h => h) (by rfl) ?_ (asks_none rfl _) ?_
        rotate_left
        · intro w _; go_simp; rfl
        simp only [Act.put, List.getElem_toArray, List.getElem_cons_zero, List.getElem_cons_succ, List.setIfInBounds_toArray, List.set_cons_zero, List.set_cons_succ]
        refine wpG_loud (i := 11) rfl rfl rfl (by kernel_rfl) (fun K hK => ?_)
        go_simp
        refine (inputs_all (HT7.out.below (HB9.out.drew)) hw i).mono ?_
        rintro e w10 ⟨v10, rfl, ho10, hb10⟩
        rw [HX.out] at ho10
        have HB10 : Hid (Below w7.heap.size w7 w10) := HB9.out.drew.trans (hb10.mono HB9.out.size)
        have HO10 := Lib.hid ho10
        obtain ⟨A10, c10, rfl, hs10⟩ := ho10.sl w10.heap.size
        have HS10 := Lib.hid hs10
        clear ho10 hb10 hs10
        refine hK _ _ ?_ ?_
        · intro q hq hwt; simp only [List.mem_cons, List.not_mem_nil, or_false] at hq; rcases hq with rfl | rfl
          · exact HC.out _ HB10.out
          · exact HC.out _ HB10.out
        clear hK K
        try simp only [Act.put, List.getElem_toArray, List.getElem_cons_zero, List.getElem_cons_succ, List.setIfInBounds_toArray, List.set_cons_zero, List.set_cons_succ]
        refine wpG_loud (i := 14) rfl rfl rfl (by kernel_rfl) (fun K hK => ?_)
        go_simp
        refine (rinputs_any (HS8.out.below HB10.out) hw i).mono ?_
        rintro e w11 ⟨v11, rfl, ho11, hb11⟩
        rw [HX.out] at ho11
        have HB11 : Hid (Below w7.heap.size w7 w11) := HB10.out.trans (hb11.mono HB10.out.size)
        obtain ⟨A11, c11, rfl, hs11⟩ := ho11.sl w10.heap.size
        have HS11 := Lib.hid hs11
        have HS12 := Lib.hid (HS10.out.below hb11)
        clear ho11 hb11 hs11
        refine hK _ _ ?_ ?_
        · intro q hq hwt; simp only [List.mem_cons, List.not_mem_nil, or_false] at hq; rcases hq with rfl | rfl
          · exact Bool.noConfusion (hwt.symm.trans (show _ = true from by kernel_rfl))
          · exact HC.out _ HB11.out
        clear hK K
        try simp only [Act.put, List.getElem_toArray, List.getElem_cons_zero, List.getElem_cons_succ, List.setIfInBounds_toArray, List.set_cons_zero, List.set_cons_succ]
        refine wpG_loud (i := 15) rfl rfl rfl (by kernel_rfl) (fun K hK => ?_)
        go_simp
        refine (ints_any X X A10 A11 c10 c11 w10.heap.size _ HS12.out HS11.out).mono ?_
        rintro e w12 ⟨rfl, n12, rfl⟩
        rw [show equalIB X X = true from decide_eq_true rfl]
        have HB12 : Hid (Below w7.heap.size w7 (w11.drewN n12)) := below_drewN HB11.out n12
        refine hK _ _ ?_ ?_
        · intro q hq hwt; simp only [List.mem_cons, List.not_mem_nil, or_false] at hq; rcases hq with rfl | rfl
          · exact HC.out _ HB12.out
          · exact HC.out _ HB12.out
        clear hK K
        try simp only [Act.put, List.getElem_toArray, List.getElem_cons_zero, List.getElem_cons_succ, List.setIfInBounds_toArray, List.set_cons_zero, List.set_cons_succ]
        refine wpG_take (i := 16) (v := ?_) rfl (by kernel_rfl) rfl (by kernel_rfl) (by kernel_rfl) (fun _ _ _ h => h) (by rfl) ?_ (asks_none rfl _) ?_
        rotate_left
        · intro w _; go_simp; rfl
        simp only [Act.put, List.getElem_toArray, List.getElem_cons_zero, List.getElem_cons_succ, List.setIfInBounds_toArray, List.set_cons_zero, List.set_cons_succ]
        refine wpG_take (i := 17) (v := ?_) rfl (by kernel_rfl) rfl (by kernel_rfl) (by kernel_rfl) (fun _ _ _ h => h) (by rfl) ?_ (asks_none rfl _) ?_
        rotate_left
        · intro w _; go_simp; rfl
        simp only [Act.put, List.getElem_toArray, List.getElem_cons_zero, List.getElem_cons_succ, List.setIfInBounds_toArray, List.set_cons_zero, List.set_cons_succ]
        refine wpG_take (i := 18) (v := ?_) rfl (by kernel_rfl) rfl (by kernel_rfl) (by kernel_rfl) (fun _ _ _ h => h) (by rfl) ?_ (asks_none rfl _) ?_
        rotate_left
        · intro w _; go_simp; rfl
        simp only [Act.put, List.getElem_toArray, List.getElem_cons_zero, List.getElem_cons_succ, List.setIfInBounds_toArray, List.set_cons_zero, List.set_cons_succ]
        refine wpG_take (i := 19) (v := ?_) rfl (by kernel_rfl) rfl (by kernel_rfl) (by kernel_rfl) (fun _ _ _ h => h) (by rfl) ?_ (asks_none rfl _) ?_
        rotate_left
        · intro w _; go_simp; rfl
        simp only [Act.put, List.getElem_toArray, List.getElem_cons_zero, List.getElem_cons_succ, List.setIfInBounds_toArray, List.set_cons_zero, List.set_cons_succ]
        refine wpG_take (i := 20) (v := ?_) rfl (by kernel_rfl) rfl (by kernel_rfl) (by kernel_rfl) (fun _ _ _ h => h) (by rfl) ?_ (asks_none rfl _) ?_
        rotate_left
        · intro w _; go_simp; rfl
        simp only [Act.put, List.getElem_toArray, List.getElem_cons_zero, List.getElem_cons_succ, List.setIfInBounds_toArray, List.set_cons_zero, List.set_cons_succ]
        refine wpG_take (i := 22) (v := ?_) rfl (by kernel_rfl) rfl (by kernel_rfl) (by kernel_rfl) (fun _ _ _ h => h) (by rfl) ?_ (by simp [asksOf]; exact HC.out _ HB11.out) ?_
        rotate_left
        · intro w hw; simp [asksOf] at hw; obtain ⟨hw0, hw1⟩ := hw; go_simp; rfl
        simp only [Act.put, List.getElem_toArray, List.getElem_cons_zero, List.getElem_cons_succ, List.setIfInBounds_toArray, List.set_cons_zero, List.set_cons_succ]
        refine wpG_take (i := 23) (v := ?_) rfl (by kernel_rfl) rfl (by kernel_rfl) (by kernel_rfl) (fun _ _ _ h => h) (by rfl) ?_ (asks_none rfl _) ?_
        rotate_left
        · intro w _; go_simp; rfl
        simp only [Act.put, List.getElem_toArray, List.getElem_cons_zero, List.getElem_cons_succ, List.setIfInBounds_toArray, List.set_cons_zero, List.set_cons_succ]
        refine wpG_loud (i := 21) rfl rfl rfl (by kernel_rfl) (fun K hK => ?_)
        go_simp
        refine (size_all (HT7.out.below HB12.out) hw i).mono ?_
        rintro e w13 ⟨rfl, hb13⟩
        have HB13 : Hid (Below w7.heap.size w7 w13) := HB12.out.trans (hb13.mono HB12.out.size)
        clear hb13
        refine hK _ _ ?_ ?_
        · intro q hq hwt; simp only [List.mem_cons, List.not_mem_nil, or_false] at hq; rcases hq with rfl | rfl
          · exact HC.out _ HB13.out
          · exact HC.out _ HB13.out
        clear hK K
        try simp only [Act.put, List.getElem_toArray, List.getElem_cons_zero, List.getElem_cons_succ, List.setIfInBounds_toArray, List.set_cons_zero, List.set_cons_succ]
        refine wpG_loud (i := 24) rfl rfl rfl (by kernel_rfl) (fun K hK => ?_)
        go_simp
        refine (rsize_any (HS8.out.below HB13.out) hw i).mono ?_
        rintro e w14 ⟨rfl, hb14⟩
        have HB14 : Hid (Below w7.heap.size w7 w14) := HB13.out.trans (hb14.mono HB13.out.size)
        clear hb14
        refine hK _ _ ?_ ?_
        · intro q hq hwt; simp only [List.mem_cons, List.not_mem_nil, or_false] at hq; rcases hq with rfl | rfl
          · exact HC.out _ HB14.out
          · exact Bool.noConfusion (hwt.symm.trans (show _ = true from by kernel_rfl))
        clear hK K
        try simp only [Act.put, List.getElem_toArray, List.getElem_cons_zero, List.getElem_cons_succ, List.setIfInBounds_toArray, List.set_cons_zero, List.set_cons_succ]
        refine wpG_take (i := 25) (v := ?_) rfl (by kernel_rfl) rfl (by kernel_rfl) (by kernel_rfl) (fun _ _ _ h => h) (by rfl) ?_ (asks_none rfl _) ?_
        rotate_left
        · intro w _; go_simp; rfl
        simp only [Act.put, List.getElem_toArray, List.getElem_cons_zero, List.getElem_cons_succ, List.setIfInBounds_toArray, List.set_cons_zero, List.set_cons_succ]
        refine wpG_take (i := 26) (v := ?_) rfl (by kernel_rfl) rfl (by kernel_rfl) (by kernel_rfl) (fun _ _ _ h => h) (by rfl) ?_ (asks_none rfl _) ?_
        rotate_left
        · intro w _; go_simp; rfl
        simp only [Act.put, List.getElem_toArray, List.getElem_cons_zero, List.getElem_cons_succ, List.setIfInBounds_toArray, List.set_cons_zero, List.set_cons_succ]
        refine wpG_done (by kernel_rfl) ?_
        go_wp2
        go_roundw
        case rel => exact ⟨_, k + 1, rfl, by have := HN.out; omega, by go_num, HB14.out⟩
        case measure => simp [intOf]; have := HN.out; omega
      · obtain rfl : k = L.length := by omega
        clear hbw
        go_wp2
        go_ret
        exact ⟨rfl, HBW.out.trans (HBR.out.mono HBW.out.size)⟩
set_option maxRecDepth 100000 in
theorem evals_walk (q : Int) (l : List Tm) (inp : List Int) (odd : Int) (A A2 : Option Addr) (c c2 : Nat) (w : World) (hs : SlT w A c l) (hin : SlI w w.heap.size A2 c2 inp) :
    Calls Try.prog 14 #[.int .i64 q, .slice A l.length c, .slice A2 inp.length c2, .int .i64 odd] w fun e w' => e = .returned (.bool true) ∧ Below w.heap.size w w' := by
  have hbig := hs.big
  by_cases hl : l.length ≤ 40
  · by_cases h : q < 2 ∨ 8 < q
    · have d1 : decide ((l.length : Int) > 40) = false := decide_eq_false (by omega)
      have d1' : decide (40 < l.length) = false := decide_eq_false (by omega)
      clear hs hin hl
      go_enter Try.func14, Try.ntmps14
      go_wp2_with (first
        | (go_at_call 76; go_must (refine (awake22 _).mono ?_; rintro e w1 ⟨rfl, hb1⟩; have HB1 := Lib.hid hb1; clear hb1))
        | (go_at_call 23; go_must (refine (isWidth_no _ _ h).mono ?_; rintro e w' ⟨rfl, rfl⟩)))
      go_ret
      exact ⟨rfl, HB1.out⟩
    · exact evals_yes q l inp odd A A2 c c2 w (by omega) (by omega) hl hs hin
  · have d1 : decide ((l.length : Int) > 40) = true := decide_eq_true (by omega)
    have d1' : decide (40 < l.length) = true := decide_eq_true (by omega)
    clear hs hin hl
    go_enter Try.func14, Try.ntmps14
    go_wp2_with (go_at_call 76; go_must (refine (awake22 _).mono ?_; rintro e w1 ⟨rfl, hb1⟩; have HB1 := Lib.hid hb1; clear hb1))
    go_ret
    exact ⟨rfl, HB1.out⟩
end Go.Proofs.Ytgmcajojigedaaa
