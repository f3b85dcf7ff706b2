/- Words of literals: Mul. -/
import Derived.Test.YtgmcajojigedaaaFa
set_option linter.unusedSimpArgs false
set_option linter.unusedVariables false
namespace Go.Proofs.Ytgmcajojigedaaa
open Go.RowKit

def rowT (g : GS) (xs ys : List Int) (n k : Nat) : Nat → ChS
  | 0 => ⟨g, bitsI n 0⟩
  | t + 1 => let s := rowT g xs ys n k t; let a := andF s.g (xs.getD t 0) (ys.getD k 0); ⟨a.1, s.out.set (k + t) a.2⟩
def mulK (g : GS) (xs ys : List Int) : Nat → ChS
  | 0 => ⟨g, bitsI xs.length 0⟩
  | k + 1 => let s := mulK g xs ys k; let r := rowT s.g xs ys xs.length k (xs.length - k); let u := sumF r.g s.out r.out 0; ⟨u.g, u.out⟩
def mulF (g : GS) (xs ys : List Int) : ChS := if okW xs ys then mulK g xs ys xs.length else ⟨g, []⟩

theorem areLit.set {g : GS} {xs : List Int} {j : Nat} {x : Int} (h : areLit g xs) (hx : isLit g x) : areLit g (xs.set j x) := fun z hz => by
  rcases List.mem_or_eq_of_mem_set hz with h1 | h1
  · exact h z h1
  · rw [h1]; exact hx
theorem rowT_spec {g : GS} {xs ys : List Int} (n k : Nat) (hx : areLit g xs) (hy : areLit g ys) : ∀ t : Nat, g.nodes + t ≤ 65536 →
    Grew t g (rowT g xs ys n k t).g ∧ areLit (rowT g xs ys n k t).g (rowT g xs ys n k t).out ∧ (rowT g xs ys n k t).out.length = n
  | 0, _ => ⟨Grew.refl _ _, areLit.bits _ _, bitsI_length _ _⟩
  | t + 1, hn => by
    obtain ⟨h1, h2, h3⟩ := rowT_spec n k hx hy t (by omega)
    have n1 := h1.nodes
    have h4 := andF_spec (g := (rowT g xs ys n k t).g) (h1.lit (hx.getD t)) (h1.lit (hy.getD k)) (by omega)
    exact ⟨h1.trans h4.1, (h4.1.lits h2).set h4.2, by simpa [rowT] using h3⟩
theorem mulK_spec {g : GS} {xs ys : List Int} (hx : areLit g xs) (hy : areLit g ys) (h8 : xs.length ≤ 8) : ∀ k : Nat, k ≤ xs.length → g.nodes + 90 * k ≤ 65536 →
    Grew (90 * k) g (mulK g xs ys k).g ∧ areLit (mulK g xs ys k).g (mulK g xs ys k).out ∧ (mulK g xs ys k).out.length = xs.length
  | 0, _, _ => ⟨Grew.refl _ _, areLit.bits _ _, bitsI_length _ _⟩
  | k + 1, hk, hn => by
    obtain ⟨h1, h2, h3⟩ := mulK_spec hx hy h8 k (by omega) (by omega)
    have n1 := h1.nodes
    obtain ⟨r1, r2, r3⟩ := rowT_spec (g := (mulK g xs ys k).g) xs.length k (h1.lits hx) (h1.lits hy) (xs.length - k) (by omega)
    have n2 := r1.nodes
    obtain ⟨s1, s2, _, s4⟩ := sumF_spec (g := (rowT (mulK g xs ys k).g xs ys xs.length k (xs.length - k)).g) (r1.lits h2) r2 (lit_zero _) (by omega) (by omega)
    exact ⟨(h1.trans (r1.trans s1)).mono (by omega), s2, s4.trans h3⟩

theorem Fr.setCell_fresh {B0 : Nat} {ts ms : List Nat} {w w' : World} (h : Fr B0 ts ms w w') {p : Addr} (hp : w.heap.size ≤ p.block) (u : Value) : Fr B0 ts ms w (w'.setCell p u) :=
  ⟨h.os, h.tape, h.output, by simp [World.setCell]; exact h.size, fun k o hk hn => by
    have := lt_of_some hk
    rw [Below.heap_setCell _ _ _ _ (fun e => by omega)]; exact h.block k o hk hn⟩
theorem Bd.setCell_far {B0 : Nat} {w : World} {p m : Nat} {A : Option Addr} {c : Nat} {g : GS} (h : Bd B0 w p m A c g) {q : Addr} {cs : Array Value} {t : Nat} {f : Nat × Nat} (hq : w.heap[q.block]? = some (.cells cs t f)) (h1 : t ≠ 116) (h2 : t ≠ 123) (u : Value) : Bd B0 (w.setCell q u) p m A c g :=
  ⟨by rw [Below.heap_setCell _ _ _ _ (fun e => by rw [← e, h.blk] at hq; cases hq; exact h1 rfl)]; exact h.blk, h.hp, h.hm, own_far h.own hq h2 u,
    by rw [Below.heap_setCell _ _ _ _ (fun e => by rw [← e, h.map] at hq; cases hq)]; exact h.map⟩
theorem OwnOf.form {α : Type} {F : α → Value} {e : Nat} {w : World} {B : Nat} {v : Value} {xs : List α} (h : OwnOf F e w B v xs) (hn : 0 < xs.length) : ∃ G cap, v = .slice (some ⟨G, 0, none⟩) xs.length cap ∧ B ≤ G := by
  rcases h.2 with ⟨_, h0⟩ | ⟨g, cap, cur, rfl, hb, _⟩
  · omega
  · exact ⟨g, cap, rfl, hb⟩
section
variable {α : Type} {F : α → Value} {e B G n cap : Nat} {w : World} {xs : List α}
theorem OwnOf.set (h : OwnOf F e w B (.slice (some ⟨G, 0, none⟩) n cap) xs) (hn : xs.length = n) (j : Nat) (x : α) : OwnOf F e (w.setCell ⟨G, j, none⟩ (F x)) B (.slice (some ⟨G, 0, none⟩) n cap) (xs.set j x) := by
  subst hn
  unfold OwnOf at *
  rw [List.length_set, List.map_set]
  exact (World.ownsRow.stored h j (F x)).1
theorem OwnOf.cell (h : OwnOf F e w B (.slice (some ⟨G, 0, none⟩) n cap) xs) (hn : xs.length = n) (j : Nat) (hj : j < n) : ∃ x, xs[j]? = some x ∧ w.cell? ⟨G, j, none⟩ = some (F x) := by
  subst hn
  have := World.ownsRow.cellAt h j (by omega)
  have hx : xs[j]? = some xs[j] := List.getElem?_eq_getElem hj
  exact ⟨_, hx, by rw [this, List.getElem?_map, hx]; rfl⟩
theorem OwnOf.frozen (h : OwnOf F e w B (.slice (some ⟨G, 0, none⟩) n cap) xs) (hn : xs.length = n) (j : Nat) : w.frozen? ⟨G, j, none⟩ = false := by
  subst hn; exact World.ownsRow.frozenAt h j
theorem OwnOf.blk (h : OwnOf F e w B (.slice (some ⟨G, 0, none⟩) n cap) xs) : ∃ cs, w.heap[G]? = some (.cells cs e (0, 0)) := h.typed G rfl
end

section
variable {B0 p m : Nat} {A A1 A2 : Option Addr} {c c1 c2 : Nat} {g : GS} {k : Int} {xs ys : List Int} {w : World} {n1 n2 : Nat}
theorem sum_n (hB : B0 ≤ w.heap.size) (hb : Bd B0 w p m A c g) (hw : GWf g) (e1 : xs.length = n1) (e2 : ys.length = n2) (hl : n1 ≤ n2) (hl9 : n1 ≤ 9) (hn : g.nodes + 81 ≤ 65536) (hk : isLit g k) (hxl : areLit g xs) (hyl : areLit g ys) (h1 : SlI w B0 A1 c1 xs) (h2 : SlI w B0 A2 c2 ys) :
    Calls Try.prog 104 #[.pointer (some ⟨p, 0, none⟩), .slice A1 n1 c1, .slice A2 n2 c2, .int .i64 k] w (SumRet B0 p m w (sumF g xs ys k)) := by
  subst e1 e2
  exact sum_any B0 p m A A1 A2 c c1 c2 g k xs ys w hB hb hw hl hl9 (by omega) hk hxl hyl h1 h2
theorem choose_n (hB : B0 ≤ w.heap.size) (hb : Bd B0 w p m A c g) (hw : GWf g) (e1 : xs.length = n1) (e2 : ys.length = n2) (hl : n1 ≤ n2) (hl9 : n1 ≤ 9) (hn : g.nodes + 81 ≤ 65536) (hk : isLit g k) (hxl : areLit g xs) (hyl : areLit g ys) (h1 : SlI w B0 A1 c1 xs) (h2 : SlI w B0 A2 c2 ys) :
    Calls Try.prog 103 #[.pointer (some ⟨p, 0, none⟩), .int .i64 k, .slice A1 n1 c1, .slice A2 n2 c2] w (WordRet B0 p m w (chooseF g k xs ys).g (chooseF g k xs ys).out) := by
  subst e1 e2
  exact choose_any B0 p m A A1 A2 c c1 c2 g k xs ys w hB hb hw hl hl9 (by omega) hk hxl hyl h1 h2
theorem neg_n (hB : B0 ≤ w.heap.size) (hb : Bd B0 w p m A c g) (hw : GWf g) (hn : g.nodes + 81 ≤ 65536) (e1 : xs.length = n1) (hxl : areLit g xs) (h1 : SlI w B0 A1 c1 xs) :
    Calls Try.prog 46 #[.pointer (some ⟨p, 0, none⟩), .slice A1 n1 c1] w (WordRet B0 p m w (negF g xs).g (negF g xs).out) := by
  subst e1; exact neg_any hB hb hw hn hxl h1
theorem equal_n (hB : B0 ≤ w.heap.size) (hb : Bd B0 w p m A c g) (hw : GWf g) (hn : g.nodes + 81 ≤ 65536) (e1 : xs.length = n1) (e2 : ys.length = n2) (hxl : areLit g xs) (hyl : areLit g ys) (h1 : SlI w B0 A1 c1 xs) (h2 : SlI w B0 A2 c2 ys) :
    Calls Try.prog 44 #[.pointer (some ⟨p, 0, none⟩), .slice A1 n1 c1, .slice A2 n2 c2] w (GRet B0 p m w (equalF g xs ys).g (equalF g xs ys).x) := by
  subst e1 e2; exact equal_any hB hb hw hn hxl hyl h1 h2
theorem inverse_n (e1 : xs.length = n1) (hl : n1 ≤ 100) (hx : ∀ x ∈ xs, 0 ≤ x ∧ x < 9223372036854775807) (hs : SlI w B0 A1 c1 xs) :
    Calls Try.prog 105 #[.slice A1 n1 c1] w (RetOwnI w (xs.map notL)) := by
  subst e1; exact inverse_any xs A1 c1 B0 w hs hl hx

set_option maxHeartbeats 4000000 in
theorem mul_any (hB : B0 ≤ w.heap.size) (hb : Bd B0 w p m A c g) (hw : GWf g) (hn : g.nodes + 800 ≤ 65536) (hxl : areLit g xs) (hyl : areLit g ys) (h1 : SlI w B0 A1 c1 xs) (h2 : SlI w B0 A2 c2 ys) :
    Calls Try.prog 42 #[.pointer (some ⟨p, 0, none⟩), .slice A1 xs.length c1, .slice A2 ys.length c2] w (WordRet B0 p m w (mulF g xs ys).g (mulF g xs ys).out) := by
  have HB := Lib.hid hb
  have H1 := Lib.hid h1
  have H2 := Lib.hid h2
  by_cases h : okW xs ys
  · have hok := okW_yes h
    have e : Hid (mulF g xs ys = mulK g xs ys xs.length) := if_pos h
    have HXL := Lib.hid hxl
    have HYL := Lib.hid hyl
    have HW := Lib.hid hw
    have hlen : Hid (ys.length = xs.length) := h.2.2
    have hx8 : xs.length ≤ 8 := h.2.1
    have hx1 : 1 ≤ xs.length := h.1
    have hy9 := h2.big
    clear hb h1 h2 h hxl hyl hw
    go_enter Try.func42, Try.ntmps42
    go_wp2_with (first
      | (go_at_call 102; refine (words_any [xs, ys] _ 2 B0 _ (slw_two H1.out H2.out) (by simp) (by simp)).mono ?_; rintro e w' ⟨rfl, rfl⟩)
      | (go_at_call 94; refine (constant_any xs.length 0 _ (by omega)).mono ?_; rintro e W0 ⟨v0, rfl, ho0, hb0⟩; have F0 : Hid (Fr B0 [116, 123] [m] w W0) := (Fr.of_below (below_alloc _ _)).trans (Fr.of_below hb0); have BD0 : Hid (Bd B0 W0 p m A c g) := (HB.out.below (below_alloc _ _)).below hb0; have O0 : Hid (OwnI W0 w.heap.size v0 (bitsI xs.length 0)) := ho0.mono (by simp); clear ho0 hb0))
    go_loopw [8, 9, 10, 11, 22] (fun u _ _ _ i wr => ∃ (k : Nat) (v : Value), v = u ∧ k ≤ xs.length ∧ i = .int .i64 k ∧ OwnI wr w.heap.size v (mulK g xs ys k).out ∧ (∃ A' c', Bd B0 wr p m A' c' (mulK g xs ys k).g) ∧ Fr B0 [116, 123] [m] w wr) (fun _ _ _ _ i _ => xs.length - (intOf i).toNat)
    case atStart => exact ⟨0, _, rfl, Nat.zero_le _, rfl, O0.out, ⟨A, c, BD0.out⟩, F0.out⟩
    case round =>
      obtain ⟨k, v, rfl, hk, rfl, hown, ⟨A', c', hbd⟩, hfr⟩ := hrel
      by_cases hlt : k < xs.length
      · have HS := Lib.hid (mulK_spec HXL.out HYL.out hx8 k (by omega) (by omega))
        have HBD := Lib.hid hbd
        have HFR := Lib.hid hfr
        have HOWN := Lib.hid hown
        have hnn : Hid ((mulK g xs ys k).g.nodes + 90 ≤ 65536) := by show _ ≤ _; have := HS.out.1.nodes; omega
        have hnext : Hid (mulK g xs ys (k + 1) = ⟨(sumF (rowT (mulK g xs ys k).g xs ys xs.length k (xs.length - k)).g (mulK g xs ys k).out (rowT (mulK g xs ys k).g xs ys xs.length k (xs.length - k)).out 0).g, (sumF (rowT (mulK g xs ys k).g xs ys xs.length k (xs.length - k)).g (mulK g xs ys k).out (rowT (mulK g xs ys k).g xs ys xs.length k (xs.length - k)).out 0).out⟩) := rfl
        clear hbd hfr hown
        generalize hST : mulK g xs ys k = st at HS hnext HBD HOWN hnn
        clear hST
        obtain ⟨wo, rfl⟩ : ∃ wo : World, wo = wr := ⟨_, rfl⟩
        go_wp2_with (go_at_call 94; refine (constant_any xs.length 0 _ (by omega)).mono ?_; rintro e w1 ⟨v1, rfl, ho1, hb1⟩; obtain ⟨G, cap, rfl, hG⟩ := ho1.form (by rw [bitsI_length]; omega); rw [bitsI_length] at ho1 ⊢; have O1 := Lib.hid ho1; have HB1 := Lib.hid hb1; clear ho1 hb1)
        go_loopw [11] (fun i wi => ∃ J t : Nat, J = k + t ∧ J ≤ xs.length ∧ i = .int .i64 J ∧ OwnI wi wo.heap.size (.slice (some ⟨G, 0, none⟩) xs.length cap) (rowT st.g xs ys xs.length k t).out ∧ (∃ A' c', Bd B0 wi p m A' c' (rowT st.g xs ys xs.length k t).g) ∧ Fr B0 [116, 123] [m] wo wi) (fun i _ => xs.length - (intOf i).toNat)
        case atStart => exact ⟨k, 0, rfl, hk, rfl, O1.out, ⟨A', c', HBD.out.below HB1.out⟩, Fr.of_below HB1.out⟩
        case round =>
          obtain ⟨J, t, hJ, hJn, rfl, hownr, ⟨A2', c2', hbdr⟩, hfrr⟩ := hrel
          have RS := Lib.hid (rowT_spec (g := st.g) xs.length k (HS.out.1.lits HXL.out) (HS.out.1.lits HYL.out) t (by have := hnn.out; omega))
          by_cases hltJ : J < xs.length
          · have htx : t < xs.length := by omega
            have hfw := HFR.out.trans hfrr
            obtain ⟨b1, o1, x, rfl, hx, hcx⟩ := (H1.out.fr hfw (by decide)).at_ htx
            obtain ⟨b2, o2, y, rfl, hy, hcy⟩ := (H2.out.fr hfw (by decide)).at_ (k := k) (by have := hlen.out; omega)
            have hltI : (t : Int) < (xs.length : Int) := by omega
            have hlt2 : (k : Int) < (ys.length : Int) := by have := hlen.out; omega
            have hltJI : (J : Int) < (xs.length : Int) := by omega
            have hsub : (J : Int) - (k : Int) = (t : Int) := by omega
            have hwt : IntKind.i64.wrap (t : Int) = (t : Int) := by rw [IntKind.wrap_i64]; omega
            have HJ := Lib.hid hJ
            have hx' : Hid (xs.getD t 0 = x) := getD_of hx
            have hy' : Hid (ys.getD k 0 = y) := getD_of hy
            have hlx : Hid (isLit g x) := by have := HXL.out.getD t; rwa [hx'.out] at this
            have hly : Hid (isLit g y) := by have := HYL.out.getD k; rwa [hy'.out] at this
            have HXJ := Lib.hid hx
            have HYJ := Lib.hid hy
            have hrnext : Hid (rowT st.g xs ys xs.length k (t + 1) = ⟨(andF (rowT st.g xs ys xs.length k t).g x y).1, (rowT st.g xs ys xs.length k t).out.set J (andF (rowT st.g xs ys xs.length k t).g x y).2⟩) := by
              show _ = _; rw [rowT, hx'.out, hy'.out, HJ.out]
            have HBDR := Lib.hid hbdr
            have HFRR := Lib.hid hfrr
            have HOWNR := Lib.hid hownr
            have hrn : Hid ((rowT st.g xs ys xs.length k t).g.nodes < 65536) := by show _ < _; have := RS.out.1.nodes; have := hnn.out; omega
            clear hJ hx hy hbdr hfrr hownr hfw
            generalize hRT : rowT st.g xs ys xs.length k t = rs at RS hrnext HBDR HOWNR hrn
            clear hRT
            have HBW : Hid (B0 ≤ wr.heap.size) := by show _ ≤ _; have := HFR.out.size; have := HFRR.out.size; omega
            obtain ⟨r, hr⟩ : ∃ r, andF rs.g x y = r := ⟨_, rfl⟩
            rw [hr] at hrnext
            have HR := Lib.hid hr
            clear hr
            go_wp2
            refine wp_region_G [13, 15] [(8, fun w' => w'.cell? ⟨b1, o1 + t, none⟩ = some (.int .i64 x)), (12, fun w' => w'.cell? ⟨b2, o2 + k, none⟩ = some (.int .i64 y))] (by kernel_rfl) ?_
            refine wpG_take (i := 0) (v := ?_) rfl (by kernel_rfl) rfl (by kernel_rfl) (by kernel_rfl) (fun _ _ _ h => h) (by rfl) ?_ (asks_none rfl _) ?_
            rotate_left
            · intro w _; go_simp; rfl
            simp only [Act.put, List.getElem_toArray, List.getElem_cons_zero, List.getElem_cons_succ, List.setIfInBounds_toArray, List.set_cons_zero, List.set_cons_succ]
            refine wpG_take (i := 1) (v := ?_) rfl (by kernel_rfl) rfl (by kernel_rfl) (by kernel_rfl) (fun _ _ _ h => h) (by rfl) ?_ (asks_none rfl _) ?_
            rotate_left
            · intro w _; go_simp; rfl
            simp only [Act.put, List.getElem_toArray, List.getElem_cons_zero, List.getElem_cons_succ, List.setIfInBounds_toArray, List.set_cons_zero, List.set_cons_succ]
            refine wpG_take (i := 2) (v := ?_) rfl (by kernel_rfl) rfl (by kernel_rfl) (by kernel_rfl) (fun _ _ _ h => h) (by rfl) ?_ (asks_none rfl _) ?_
            rotate_left
            · intro w _; go_simp; rfl
            simp only [Act.put, List.getElem_toArray, List.getElem_cons_zero, List.getElem_cons_succ, List.setIfInBounds_toArray, List.set_cons_zero, List.set_cons_succ]
            refine wpG_take (i := 3) (v := ?_) rfl (by kernel_rfl) rfl (by kernel_rfl) (by kernel_rfl) (fun _ _ _ h => h) (by rfl) ?_ (asks_none rfl _) ?_
            rotate_left
            · intro w _; go_simp; rfl
            simp only [Act.put, List.getElem_toArray, List.getElem_cons_zero, List.getElem_cons_succ, List.setIfInBounds_toArray, List.set_cons_zero, List.set_cons_succ]
            refine wpG_take (i := 4) (v := ?_) rfl (by kernel_rfl) rfl (by kernel_rfl) (by kernel_rfl) (fun _ _ _ h => h) (by rfl) ?_ (asks_none rfl _) ?_
            rotate_left
            · intro w _; go_simp; rfl
            simp only [Act.put, List.getElem_toArray, List.getElem_cons_zero, List.getElem_cons_succ, List.setIfInBounds_toArray, List.set_cons_zero, List.set_cons_succ]
            refine wpG_take (i := 5) (v := ?_) rfl (by kernel_rfl) rfl (by kernel_rfl) (by kernel_rfl) (fun _ _ _ h => h) (by rfl) ?_ (asks_none rfl _) ?_
            rotate_left
            · intro w _; go_simp; rfl
            simp only [Act.put, List.getElem_toArray, List.getElem_cons_zero, List.getElem_cons_succ, List.setIfInBounds_toArray, List.set_cons_zero, List.set_cons_succ]
            refine wpG_take (i := 6) (v := ?_) rfl (by kernel_rfl) rfl (by kernel_rfl) (by kernel_rfl) (fun _ _ _ h => h) (by rfl) ?_ (asks_none rfl _) ?_
            rotate_left
            · intro w _; go_simp; rfl
            simp only [Act.put, List.getElem_toArray, List.getElem_cons_zero, List.getElem_cons_succ, List.setIfInBounds_toArray, List.set_cons_zero, List.set_cons_succ]
            refine wpG_take (i := 7) (v := ?_) rfl (by kernel_rfl) rfl (by kernel_rfl) (by kernel_rfl) (fun _ _ _ h => h) (by rfl) ?_ (asks_none rfl _) ?_
            rotate_left
            · intro w _; go_simp; rfl
            simp only [Act.put, List.getElem_toArray, List.getElem_cons_zero, List.getElem_cons_succ, List.setIfInBounds_toArray, List.set_cons_zero, List.set_cons_succ]
            refine wpG_take (i := 8) (v := ?_) rfl (by kernel_rfl) rfl (by kernel_rfl) (by kernel_rfl) (fun _ _ _ h => h) (by rfl) ?_ (by simp [asksOf]; exact hcx) ?_
            rotate_left
            · intro w hw; simp [asksOf] at hw; go_simp; rfl
            simp only [Act.put, List.getElem_toArray, List.getElem_cons_zero, List.getElem_cons_succ, List.setIfInBounds_toArray, List.set_cons_zero, List.set_cons_succ]
            refine wpG_take (i := 9) (v := ?_) rfl (by kernel_rfl) rfl (by kernel_rfl) (by kernel_rfl) (fun _ _ _ h => h) (by rfl) ?_ (asks_none rfl _) ?_
            rotate_left
            · intro w _; go_simp; rfl
            simp only [Act.put, List.getElem_toArray, List.getElem_cons_zero, List.getElem_cons_succ, List.setIfInBounds_toArray, List.set_cons_zero, List.set_cons_succ]
            refine wpG_take (i := 10) (v := ?_) rfl (by kernel_rfl) rfl (by kernel_rfl) (by kernel_rfl) (fun _ _ _ h => h) (by rfl) ?_ (asks_none rfl _) ?_
            rotate_left
            · intro w _; go_simp; rfl
            simp only [Act.put, List.getElem_toArray, List.getElem_cons_zero, List.getElem_cons_succ, List.setIfInBounds_toArray, List.set_cons_zero, List.set_cons_succ]
            refine wpG_take (i := 11) (v := ?_) rfl (by kernel_rfl) rfl (by kernel_rfl) (by kernel_rfl) (fun _ _ _ h => h) (by rfl) ?_ (asks_none rfl _) ?_
            rotate_left
            · intro w _; go_simp; rfl
            simp only [Act.put, List.getElem_toArray, List.getElem_cons_zero, List.getElem_cons_succ, List.setIfInBounds_toArray, List.set_cons_zero, List.set_cons_succ]
            refine wpG_take (i := 12) (v := ?_) rfl (by kernel_rfl) rfl (by kernel_rfl) (by kernel_rfl) (fun _ _ _ h => h) (by rfl) ?_ (by simp [asksOf]; exact hcy) ?_
            rotate_left
            · intro w hw; simp [asksOf] at hw; go_simp; rfl
            simp only [Act.put, List.getElem_toArray, List.getElem_cons_zero, List.getElem_cons_succ, List.setIfInBounds_toArray, List.set_cons_zero, List.set_cons_succ]
            refine wpG_loud (i := 13) rfl rfl rfl (by kernel_rfl) (fun K hK => ?_)
            go_simp
            refine (and_any B0 p m A2' c2' rs.g x y wr.drew HBW.out (HBDR.out.drewN 1) hrn.out (RS.out.1.wf (HS.out.1.wf HW.out)) (RS.out.1.lit (HS.out.1.lit hlx.out)) (RS.out.1.lit (HS.out.1.lit hly.out))).mono ?_
            rintro e w2 ⟨A3', c3', rfl, hbd2, hf2⟩
            rw [HR.out] at hbd2 ⊢
            have hf02 := HFRR.out.drew.trans hf2
            have hcx2 := (H1.out.fr (HFR.out.trans hf02) (by decide)).cell HXJ.out
            have hcy2 := (H2.out.fr (HFR.out.trans hf02) (by decide)).cell HYJ.out
            have HO2 : Hid (OwnI w2 wo.heap.size (.slice (some ⟨G, 0, none⟩) xs.length cap) rs.out) := HOWNR.out.drew.fr hf2 (by decide)
            obtain ⟨z, _, hcG⟩ := HO2.out.cell RS.out.2.2 J hltJ
            have hfG := HO2.out.frozen RS.out.2.2 J
            have HF02 := Lib.hid hf02
            have HBD2 := Lib.hid hbd2
            clear hf02 hbd2 hf2 hcx hcy
            refine hK _ _ ?_ ?_
            · intro q hq hwt; simp only [List.mem_cons, List.not_mem_nil, or_false] at hq; rcases hq with rfl | rfl
              · exact Bool.noConfusion (hwt.symm.trans (show _ = true from by kernel_rfl))
              · exact Bool.noConfusion (hwt.symm.trans (show _ = true from by kernel_rfl))
            clear hK K
            try simp only [Act.put, List.getElem_toArray, List.getElem_cons_zero, List.getElem_cons_succ, List.setIfInBounds_toArray, List.set_cons_zero, List.set_cons_succ]
            refine wpG_take (i := 14) (v := ?_) rfl (by kernel_rfl) rfl (by kernel_rfl) (by kernel_rfl) (fun _ _ _ h => h) (by rfl) ?_ (asks_none rfl _) ?_
            rotate_left
            · intro w _; go_simp; rfl
            simp only [Act.put, List.getElem_toArray, List.getElem_cons_zero, List.getElem_cons_succ, List.setIfInBounds_toArray, List.set_cons_zero, List.set_cons_succ]
            refine wpG_loud (i := 15) rfl rfl rfl (by kernel_rfl) (fun K hK => ?_)
            go_simp
            refine hK _ _ ?_ ?_
            · intro q hq hwt; simp only [List.mem_cons, List.not_mem_nil, or_false] at hq; rcases hq with rfl | rfl
              · exact Bool.noConfusion (hwt.symm.trans (show _ = true from by kernel_rfl))
              · exact Bool.noConfusion (hwt.symm.trans (show _ = true from by kernel_rfl))
            clear hK K
            refine wpG_done (by kernel_rfl) ?_
            go_wp2_with fail
            go_roundw
            case rel =>
              refine ⟨J + 1, t + 1, by have := HJ.out; omega, by omega, by go_num, ?_⟩
              rw [hrnext.out]
              obtain ⟨cs, hcs⟩ := HO2.out.blk
              exact ⟨HO2.out.set RS.out.2.2 J r.2, ⟨A3', c3', HBD2.out.setCell_far (q := ⟨G, J, none⟩) hcs (by decide) (by decide) _⟩, HF02.out.setCell_fresh (p := ⟨G, J, none⟩) hG _⟩
            case measure => simp [intOf]; omega
          · obtain rfl : J = xs.length := by omega
            obtain rfl : t = xs.length - k := by omega
            have HBDR := Lib.hid hbdr
            have HFRR := Lib.hid hfrr
            have HOWNR := Lib.hid hownr
            have HSL : Hid (SlI wr B0 (some ⟨G, 0, none⟩) cap (rowT st.g xs ys xs.length k (xs.length - k)).out) := by
              obtain ⟨Aq, cq, eq, hq⟩ := hownr.sl B0
              injection eq with e1 _ e3
              subst e1 e3
              exact hq
            have hrn : Hid ((rowT st.g xs ys xs.length k (xs.length - k)).g.nodes + 81 ≤ 65536) := by show _ ≤ _; have := RS.out.1.nodes; have := hnn.out; omega
            clear hbdr hfrr hownr hJ
            generalize hRT : rowT st.g xs ys xs.length k (xs.length - k) = rs at RS hnext HBDR HOWNR hrn HSL
            clear hRT
            obtain ⟨A5, c5, hv, hs5⟩ := HOWN.out.sl B0
            rw [HS.out.2.2] at hv
            subst hv
            have HS5 := Lib.hid (hs5.fr HFRR.out (by decide))
            have HBW : Hid (B0 ≤ wr.heap.size) := by show _ ≤ _; have := HFR.out.size; have := HFRR.out.size; omega
            clear hs5
            go_wp2_with (go_at_call 104; refine (sum_n (n1 := xs.length) (n2 := xs.length) (xs := st.out) (ys := rs.out) HBW.out HBDR.out (RS.out.1.wf (HS.out.1.wf HW.out)) HS.out.2.2 RS.out.2.2 (Nat.le_refl _) (by omega) hrn.out (lit_zero _) (RS.out.1.lits HS.out.2.1) RS.out.2.1 HS5.out HSL.out).mono ?_; rintro e w3 ⟨v3, A3', c3', rfl, ho3, hbd3, hf3⟩; have HO3 := Lib.hid ho3; have HBD3 := Lib.hid hbd3; have HF3 := Lib.hid hf3; clear ho3 hbd3 hf3)
            go_roundw
            case rel =>
              refine ⟨k + 1, _, rfl, by omega, by go_num, ?_⟩
              rw [hnext.out]
              exact ⟨HO3.out.mono (by have := HFR.out.size; have := HFRR.out.size; omega), ⟨_, _, HBD3.out⟩, (HFR.out.trans HFRR.out).trans HF3.out⟩
            case measure => simp [intOf]; omega
      · obtain rfl : k = xs.length := by omega
        go_wp2
        go_ret
        exact ⟨_, A', c', rfl, by rw [e.out]; exact hown, by rw [e.out]; exact hbd, hfr⟩
  · have hok := okW_no h
    have e : Hid (mulF g xs ys = ⟨g, []⟩) := if_neg h
    clear hb h1 h2 h hxl hyl hw
    go_enter Try.func42, Try.ntmps42
    go_wp2_with (go_at_call 102; refine (words_any [xs, ys] _ 2 B0 _ (slw_two H1.out H2.out) (by simp) (by simp)).mono ?_; rintro e w' ⟨rfl, rfl⟩)
    go_ret
    refine ⟨_, A, c, rfl, ?_, ?_, Fr.of_below (below_alloc _ _)⟩
    · rw [e.out]; exact OwnOf.nil _ _
    · rw [e.out]; exact HB.out.below (below_alloc _ _)
end
end Go.Proofs.Ytgmcajojigedaaa
