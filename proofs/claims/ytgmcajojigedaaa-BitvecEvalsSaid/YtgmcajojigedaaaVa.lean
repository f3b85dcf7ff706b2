/- Slices of terms: appends, Contains; making a node that is there. Values that do not depend on other inputs: plain laws; Clone of a list of ints. -/
import Derived.Test.YtgmcajojigedaaaTo
set_option linter.unusedSimpArgs false
set_option linter.unusedVariables false
namespace Go.Proofs.Ytgmcajojigedaaa
open Go.RowKit

/-- A slice of terms of the call's own. -/
def OwnT (w : World) (B : Nat) (v : Value) (l : List Tm) : Prop := w.ownsRow B 84 5 v l.length (tcells l)
section
variable {w w' : World} {B : Nat} {v : Value} {l : List Tm}
theorem OwnT.nil (w : World) (B : Nat) : OwnT w B (.slice none 0 0) [] := World.ownsRow_nil w B 84 5
theorem OwnT.kept {row : Option Nat} (h : OwnT w B v l) (hg : w.grownBy w' row) (hne : v.ownBlock = none ∨ v.ownBlock ≠ row) : OwnT w' B v l := World.ownsRow.kept h hg hne
theorem OwnT.below (h : OwnT w B v l) (hb : Below w.heap.size w w') : OwnT w' B v l := h.kept (grown_of_below hb) (by cases v.ownBlock <;> simp)
theorem OwnT.lt (h : OwnT w B v l) : ∀ k, v.ownBlock = some k → B ≤ k ∧ k < w.heap.size := World.ownsRow.lt h
theorem OwnT.nodes (h : OwnT w B v l) : ∃ A c, v = .slice A l.length c ∧ NodesIn w A c l := by
  rcases h.2 with ⟨rfl, h0⟩ | ⟨g, cap, cur, rfl, h1⟩
  · refine ⟨none, 0, by rw [h0], ?_⟩
    have h' := h
    unfold OwnT at h'
    rw [h0] at h'
    exact nodes_of_own (c := 0) (by rw [h0]; exact h')
  · exact ⟨_, _, rfl, nodes_of_own h⟩
theorem slT_of_nodes {A : Option Addr} {c : Nat} (h : NodesIn w A c l) : SlT w A c l :=
  ⟨h.1, h.2.1, fun hn => by
    obtain ⟨b, cs, rfl, _, hc⟩ := h.2.2 hn
    refine ⟨b, 0, rfl, fun k t hk => ?_⟩
    have := hc k t hk
    simp only [Nat.zero_add]
    exact this⟩
end
/-- 'all = append(all, x)' of a term. -/
theorem appT {ops : Array Oper} {rest : List Oper} {o : Oper} {a : Act} {Q : Exit → Act → World → Prop} {w0 : World} (hg : o.guard = none) (s x : Operand)
    (hop : o.op = .call { callee := .builtin .append, args := #[s, x], argTypes := #[62, 62] })
    (B : Nat) (v : Value) (l : List Tm) (t : Tm) (hown : OwnT w0 B v l) (hs : a.eval s = v) (H : Nat) (hx : a.eval x = .slice (some ⟨H, 0, none⟩) 1 1) (hH : w0.heap.size = H)
    (h63 : l.length ≤ 1000000) (hB : B ≤ w0.heap.size)
    (hK : ∀ v' w', OwnT w' B v' (l ++ [t]) → w0.grownBy w' v.ownBlock → wpList Try.prog ops Q rest (a.put o.dst v') w') :
    wpList Try.prog ops Q (o :: rest) a (w0.alloc (.cells #[.int .i64 t.op, .int .i64 t.v, .int .i64 t.a, .int .i64 t.b, .int .i64 t.c] 84)) := by
  subst hH
  obtain ⟨i, hi, hz0, hz1, hz2⟩ := info_parts Try.info84
  refine wpList_append_own _ hg s x 62 hop B 84 i _ 5 40 Try.underlying62 hi hz0 hz1 hz2 rfl (by decide) v l.length (tcells l) hs (World.ownsRow.alloc hown _) ⟨w0.heap.size, 0, none⟩ 1 1 (tcell t) hx rfl ?_ ?_ ?_ ?_ (Nat.le_trans hB (by simp)) ?_
  · exact World.news_of_block (cs := #[.int .i64 t.op, .int .i64 t.v, .int .i64 t.a, .int .i64 t.b, .int .i64 t.c]) (t := 84) (fr := (0, 0)) (heap_alloc_new w0 _)
  · intro u hu; exact tcells_one [t] u (by simpa [tcells] using hu)
  · unfold maxLen; omega
  · omega
  · intro v' w' ho hgr _
    refine hK v' w' ?_ ?_
    · unfold OwnT
      have e : tcells (l ++ [t]) = tcells l ++ tcell t := by simp [tcells]
      rw [List.length_append, e]; exact ho
    · exact (World.grownBy_alloc _ _ _).trans hgr

/-! ### Contains, of a term that is not there -/
section
variable {w : World} {A : Option Addr} {c : Nat} {l : List Tm} {t : Tm}
set_option maxRecDepth 100000 in
set_option maxHeartbeats 1000000 in
theorem index_no (hs : SlT w A c l) (hn : ∀ x ∈ l, x ≠ t) : Calls Try.prog 137 #[.slice A l.length c, tagg t] w fun e w' => e = .returned (.int .i64 (-1)) ∧ Below w.heap.size w w' := by
  have hbig := hs.big
  have HS := Lib.hid hs
  have HN := Lib.hid hn
  clear hs hn
  obtain ⟨op, v, x, y, z⟩ := t
  unfold tagg
  dsimp only
  have HB1 : Hid (Below w.heap.size w (w.alloc (.cells #[.int .i64 op, .int .i64 v, .int .i64 x, .int .i64 y, .int .i64 z] 84))) := below_alloc _ _
  have HB2 := Lib.hid (heap_alloc_new w (.cells #[.int .i64 op, .int .i64 v, .int .i64 x, .int .i64 y, .int .i64 z] 84))
  have HSZ : Hid (w.heap.size < (w.alloc (.cells #[.int .i64 op, .int .i64 v, .int .i64 x, .int .i64 y, .int .i64 z] 84)).heap.size) := by show _ < _; simp
  go_enter Try.func137, Try.ntmps137
  go_wp2
  obtain ⟨w1, hw1⟩ : ∃ w1 : World, w.alloc (.cells #[.int .i64 op, .int .i64 v, .int .i64 x, .int .i64 y, .int .i64 z] 84) = w1 := ⟨_, rfl⟩
  rw [hw1] at HB1 HB2 HSZ ⊢
  clear hw1
  go_loopw [5, 8] (fun _ u wr => ∃ k : Nat, k ≤ l.length ∧ u = .int .i64 k ∧ Below w1.heap.size w1 wr) (fun _ u _ => l.length - (intOf u).toNat)
  case atStart => exact ⟨0, Nat.zero_le _, rfl, Below.refl _ _⟩
  case round =>
    obtain ⟨k, hk, rfl, hb⟩ := hrel
    rename_i wr
    have HBR := Lib.hid hb
    by_cases hlt : k < l.length
    · have hx : l[k]? = some l[k] := List.getElem?_eq_getElem hlt
      obtain ⟨bb, o, hA, hcell⟩ := ((HS.out.below HB1.out).below (HBR.out)).2.2 (by omega)
      subst hA
      obtain ⟨t', htk⟩ : ∃ t, l[k] = t := ⟨_, rfl⟩
      rw [htk] at hx
      obtain ⟨n0, n1, n2, n3, n4⟩ := hcell k t' hx
      have hne : decide ((⟨op, v, x, y, z⟩ : Tm) = t') = false := decide_eq_false fun e => HN.out t' (List.mem_of_getElem? hx) e.symm
      have hbk := (hb.block _ HSZ.out).trans HB2.out
      have hltI : (k : Int) < (l.length : Int) := by omega
      obtain ⟨m0, m1, m2, m3, m4⟩ : wr.cell? ⟨w.heap.size, 0, none⟩ = some (.int .i64 op) ∧ wr.cell? ⟨w.heap.size, 1, none⟩ = some (.int .i64 v) ∧ wr.cell? ⟨w.heap.size, 2, none⟩ = some (.int .i64 x) ∧ wr.cell? ⟨w.heap.size, 3, none⟩ = some (.int .i64 y) ∧ wr.cell? ⟨w.heap.size, 4, none⟩ = some (.int .i64 z) := by
        exact ⟨by simp [World.cell?, hbk], by simp [World.cell?, hbk], by simp [World.cell?, hbk], by simp [World.cell?, hbk], by simp [World.cell?, hbk]⟩
      have hrun : ∀ w, (binOp .eql 84 (.agg #[.int .i64 op, .int .i64 v, .int .i64 x, .int .i64 y, .int .i64 z]) (.agg #[.int .i64 t'.op, .int .i64 t'.v, .int .i64 t'.a, .int .i64 t'.b, .int .i64 t'.c])).run Try.prog w = .ok (.bool false) w := fun w => by
        have := run_eql84 ⟨op, v, x, y, z⟩ t' w
        rw [hne] at this
        exact this
      clear hb hcell hx htk hne hbk
      go_wp2
      go_quiet (fail)
      clear hrun
      go_wp2
      go_roundw
      case rel => exact ⟨k + 1, by omega, by go_num, below_drewN HBR.out nq⟩
      case measure => simp [intOf]; omega
    · obtain rfl : k = l.length := by omega
      go_wp2
      go_ret
      exact ⟨rfl, HB1.out.trans (HBR.out.mono HB1.out.size)⟩
theorem contains_no (hs : SlT w A c l) (hn : ∀ x ∈ l, x ≠ t) : Calls Try.prog 90 #[.slice A l.length c, tagg t] w fun e w' => e = .returned (.bool false) ∧ Below w.heap.size w w' := by
  have HS := Lib.hid hs
  have HN := Lib.hid hn
  clear hs hn
  obtain ⟨op, v, x, y, z⟩ := t
  unfold tagg
  dsimp only
  go_enter Try.func90, Try.ntmps90
  go_wp2_with (go_at_call 137; go_must (refine (index_no (HS.out.below (below_alloc w (.cells #[.int .i64 op, .int .i64 v, .int .i64 x, .int .i64 y, .int .i64 z] 84))) HN.out).mono ?_; rintro e w1 ⟨rfl, hb⟩; have HB := Lib.hid (below_of1 hb); clear hb))
  go_ret
  exact ⟨rfl, HB.out⟩
end
/-! ### Making a node that is there -/
theorem argOk_take {T : TS} {k : Nat} {s x : Int} (h : argOk ⟨T.width, T.nodes.take k⟩ s x = true) : argOk T s x = true := by
  unfold argOk at h ⊢
  by_cases hs : s = -1
  · rw [if_pos hs] at h ⊢; exact h
  · rw [if_neg hs] at h ⊢
    split at h
    · rename_i t ht
      unfold nodeAt at ht ⊢
      split at ht
      · rename_i h0
        rw [if_pos h0]
        dsimp only at ht
        rw [List.getElem?_take] at ht
        split at ht
        · rw [ht]; exact h
        · cases ht
      · cases ht
    · cases h
theorem fits_take {T : TS} {k : Nat} {t : Tm} (h : fitsT ⟨T.width, T.nodes.take k⟩ t = true) : fitsT T t = true := by
  unfold fitsT at h ⊢
  split at h
  · simp only [Bool.and_eq_true] at h ⊢
    exact ⟨⟨⟨argOk_take h.1.1.1, argOk_take h.1.1.2⟩, argOk_take h.1.2⟩, h.2⟩
  · exact h
theorem find_of_nodup {l : List Tm} {i : Nat} {t : Tm} (hn : l.Nodup) (hi : l[i]? = some t) : l.findIdx? (· == t) = some i := by
  obtain ⟨hlt, hg⟩ := List.getElem?_eq_some_iff.1 hi
  rw [List.findIdx?_eq_some_iff_getElem]
  refine ⟨hlt, by rw [hg]; exact beq_self_eq_true t, fun j hj h => ?_⟩
  have e : l[j] = l[i] := by rw [hg]; exact eq_of_beq h
  exact absurd ((List.getElem_inj hn).1 e) (by omega)
section
variable {B0 p m : Nat} {A : Option Addr} {c' : Nat} {T : TS} {w : World}
set_option maxRecDepth 100000 in
set_option maxHeartbeats 2000000 in
theorem make_same (hb : Tb B0 w p m A c' T) (hw : TWf T) {i : Nat} {t : Tm} (hi : T.nodes[i]? = some t) :
    Calls Try.prog 84 #[.pointer (some ⟨p, 0, none⟩), tagg t] w fun e w' => e = .returned (.tuple #[.int .i64 (i : Int), .int .i64 0]) ∧ Below w.heap.size w w' := by
  have hfit := fits_take (hw.fit i t hi)
  have hfind := find_of_nodup hw.nodup hi
  clear hi
  obtain ⟨op, v, a, b, c⟩ := t
  have HB := Lib.hid hb
  have ARM : Hid (∀ w', Tb B0 w' p m A c' T → Calls Try.prog 135 #[.pointer (some ⟨p, 0, none⟩), tagg ⟨op, v, a, b, c⟩] w' (FitRet w' true)) := fun w' h => by rw [← hfit]; exact fitsT_any h _
  have OKT : Hid (Tm.ok ⟨op, v, a, b, c⟩) := fits_ok hfit hw.size
  have OKS : Hid (∀ t ∈ T.nodes, t.ok) := hw.ok
  have ND : Hid T.nodes.Nodup := hw.nodup
  have HFI := Lib.hid hfind
  clear hb hfit hfind
  unfold tagg
  go_enter Try.func84, Try.ntmps84
  go_wp2_with (go_at_call 135; go_must (refine (ARM.out _ (HB.out.below (below_alloc w (.cells #[.int .i64 op, .int .i64 v, .int .i64 a, .int .i64 b, .int .i64 c] 84)))).mono ?_; rintro e w2 ⟨rfl, hb1⟩))
  obtain ⟨hbw, hKl, k0, k1, k2, k3, k4⟩ := box84 (t := ⟨op, v, a, b, c⟩) hb1
  dsimp only at k0 k1 k2 k3 k4
  have HBW := Lib.hid hbw
  have ht2 := HB.out.below hbw
  have HT2 := Lib.hid ht2
  have kc1 := ht2.cell1
  have kc2 := ht2.cell2
  have hrun : ∀ nq, (Instr.lookup 132 (.map (some m)) (.agg #[.int .i64 op, .int .i64 v, .int .i64 a, .int .i64 b, .int .i64 c]) true).run Try.prog (w2.drewN nq) = .ok (.tuple #[.int .i64 (i : Int), .bool true]) (w2.drewN nq) := fun nq => by
    rcases find_node T.nodes ⟨op, v, a, b, c⟩ OKS.out ND.out OKT.out (w2.drewN nq) HT2.out.map with ⟨j, hj, h⟩ | ⟨hj, _⟩
    · rw [HFI.out] at hj; cases hj; exact h
    · rw [HFI.out] at hj; cases hj
  clear hb1 hbw ht2 ARM hKl
  go_quiet (fail)
  clear hrun
  go_wp2
  go_ret2
  exact ⟨rfl, below_drewN HBW.out nq⟩
end
end Go.Proofs.Ytgmcajojigedaaa
namespace Go.Proofs.Ytgmcajojigedaaa
open Go.RowKit

section
variable {T : TS} {inp mixed : List Int} {i : Nat}
def agreeAt (inp mixed : List Int) (n : Int) : Prop := n < mixed.length ∧ mixed.getD n.toNat 0 = inp.getD n.toNat 0
theorem argV_same {L : List Nat} {s x y : Int} (hl : s ≠ -1 → x.toNat ∈ L) (ih : ∀ k ∈ L, ∀ v, vAt T inp k = some v → vAt T mixed k = some v) (h : argV (vAt T inp) s x = some y) : argV (vAt T mixed) s x = some y := by
  unfold argV at h ⊢
  split
  · rename_i hs; rw [if_pos hs] at h; exact h
  · rename_i hs; rw [if_neg hs] at h; exact ih _ (hl hs) _ h
theorem leaf_same {wd : Int} {t : Tm} {v : Int} (ha : agreeAt inp mixed t.v) (h : leafV wd inp t = some v) : leafV wd mixed t = some v := by
  obtain ⟨h1, h2⟩ := ha
  unfold leafV at h ⊢
  rw [if_neg (by omega), h2]
  split at h
  · cases h
  · exact h
theorem vAt_same (hw : TWf T) (hag : ∀ k ∈ partsN T i, ∀ n, isInp T k = some n → agreeAt inp mixed n) :
    ∀ m k, k < m → k ∈ partsN T i → ∀ v, vAt T inp k = some v → vAt T mixed k = some v
  | 0, _, h, _, _, _ => by omega
  | m + 1, k, hkm, hk, v, hv => by
    rcases ht : T.nodes[k]? with _ | t
    · unfold vAt at hv; rw [vF, if_pos rfl, ht] at hv; cases hv
    · rcases hf : formF t.op with _ | ⟨⟨s0, s1, s2⟩, s⟩
      · rw [vAt_leaf ht hf] at hv ⊢
        split at hv
        · rename_i ho
          rw [if_pos ho]
          exact leaf_same (hag k hk t.v (by unfold isInp; rw [ht]; exact if_pos ho)) hv
        · rename_i ho
          rw [if_neg ho]; exact hv
      · rw [vAt_op hw ht hf] at hv ⊢
        obtain ⟨a, ha, hv⟩ := Option.bind_eq_some_iff.1 hv
        obtain ⟨b, hb, hv⟩ := Option.bind_eq_some_iff.1 hv
        obtain ⟨c, hc, hv⟩ := Option.bind_eq_some_iff.1 hv
        have ih : ∀ x ∈ argsAt T k, ∀ v, vAt T inp x = some v → vAt T mixed x = some v := fun x hx v hv =>
          vAt_same hw hag m x (by have := args_lt hw hx; omega) (parts_args hw hk hx) v hv
        have hm : ∀ x, x ∈ (if s0 = -1 then [] else [t.a.toNat]) ++ ((if s1 = -1 then [] else [t.b.toNat]) ++ (if s2 = -1 then [] else [t.c.toNat])) → x ∈ argsAt T k := fun x hx => by
          unfold argsAt; rw [ht]; dsimp only; unfold argsL; rw [hf]; exact hx
        rw [argV_same (L := argsAt T k) (fun hs => hm _ (by rw [if_neg hs]; simp)) ih ha, argV_same (L := argsAt T k) (fun hs => hm _ (by rw [if_neg hs]; simp)) ih hb, argV_same (L := argsAt T k) (fun hs => hm _ (by rw [if_neg hs]; simp)) ih hc]
        exact hv
theorem isInp_fit (hw : TWf T) {k : Nat} {n : Int} (h : isInp T k = some n) : ∃ t, T.nodes[k]? = some t ∧ (t.op = 0 ∨ t.op = 1) ∧ t.v = n ∧ formF t.op = none ∧ 0 ≤ n ∧ n < 24 := by
  unfold isInp at h
  rcases ht : T.nodes[k]? with _ | t
  · rw [ht] at h; cases h
  · rw [ht] at h
    dsimp only at h
    split at h
    · rename_i ho
      have hv := Option.some.inj h
      have hf : formF t.op = none := by rcases ho with e | e <;> (rw [e]; rfl)
      have hfit := hw.fit k t ht
      unfold fitsT at hfit
      rw [hf] at hfit
      dsimp only at hfit
      unfold leafOk at hfit
      rw [if_pos ho, Bool.and_eq_true] at hfit
      have := of_decide_eq_true hfit.2
      exact ⟨t, rfl, ho, hv, hf, by omega, by omega⟩
    · cases h
theorem needs_lt (hw : TWf T) {v n : Int} (hv : vAt T inp i = some v) (hn : n ∈ inputsF T (partsN T i)) : 0 ≤ n ∧ n < 24 ∧ n < inp.length := by
  obtain ⟨k, hk, hi⟩ := (inputsF_mem T _ n).1 hn
  obtain ⟨t, ht, ho, rfl, hf, h0, h1⟩ := isInp_fit hw hi
  refine ⟨h0, h1, ?_⟩
  rcases Int.lt_or_le t.v inp.length with h | h
  · exact h
  · exfalso
    have hnone : vAt T inp k = none := by
      rw [vAt_leaf ht hf, if_pos ho]; unfold leafV; rw [if_pos h]
    rw [parts_fail hw hk hnone] at hv
    cases hv
theorem val_same (hw : TWf T) {v : Int} (hv : vAt T inp i = some v) (hag : ∀ n ∈ inputsF T (partsN T i), agreeAt inp mixed n) : vAt T mixed i = some v :=
  vAt_same hw (fun k hk n hi => hag n ((inputsF_mem T _ n).2 ⟨k, hk, hi⟩)) (i + 1) i (Nat.lt_succ_self i) (parts_self hw) v hv
end

/-! ### The mixed inputs -/
def padTo (n : Nat) (xs : List Int) : List Int := xs ++ List.replicate (n + 1 - xs.length) 6144
theorem padTo_length (n : Nat) (xs : List Int) : n < (padTo n xs).length := by unfold padTo; simp; omega
theorem padTo_done {n : Nat} {xs : List Int} (h : n < xs.length) : padTo n xs = xs := by unfold padTo; rw [show n + 1 - xs.length = 0 by omega]; simp
theorem padTo_step {n : Nat} {xs : List Int} (h : xs.length ≤ n) : padTo n (xs ++ [6144]) = padTo n xs := by
  unfold padTo
  rw [List.append_assoc, show [(6144 : Int)] = List.replicate 1 6144 from rfl, List.replicate_append_replicate]
  congr 2
  simp; omega
theorem padTo_old {n : Nat} {xs : List Int} {j : Nat} (h : j < xs.length) : (padTo n xs).getD j 0 = xs.getD j 0 := by
  unfold padTo
  simp [List.getD_eq_getElem?_getD, List.getElem?_append_left h]
def mix1 (inp : List Int) (xs : List Int) (n : Int) : List Int := (padTo n.toNat xs).set n.toNat (inp.getD n.toNat 0)
def mixK (inp other : List Int) (needs : List Int) (j : Nat) : List Int := (needs.take j).foldl (mix1 inp) other
theorem mixK_succ {inp other needs : List Int} {j : Nat} {n : Int} (h : needs[j]? = some n) : mixK inp other needs (j + 1) = mix1 inp (mixK inp other needs j) n := by
  unfold mixK
  rw [List.take_add_one, h, List.foldl_append]; rfl
theorem mix1_agree {inp xs : List Int} {n x : Int} (hx : 0 ≤ x) (hn : 0 ≤ n) (h : agreeAt inp xs x ∨ x = n) : agreeAt inp (mix1 inp xs n) x := by
  have hl : (mix1 inp xs n).length = (padTo n.toNat xs).length := by unfold mix1; simp
  have hp := padTo_length n.toNat xs
  have hpx : xs.length ≤ (padTo n.toNat xs).length := by unfold padTo; simp
  rcases h with h | rfl
  · refine ⟨by rw [hl]; have := h.1; omega, ?_⟩
    unfold mix1
    rw [List.getD_eq_getElem?_getD, List.getElem?_set]
    split
    · rename_i e
      have : x = n := by omega
      subst this
      first | rfl | (rw [if_pos hp]; rfl)
    · rw [← List.getD_eq_getElem?_getD, padTo_old (by have := h.1; omega)]; exact h.2
  · refine ⟨by rw [hl]; omega, ?_⟩
    unfold mix1
    rw [List.getD_eq_getElem?_getD, List.getElem?_set, if_pos rfl, if_pos hp]; rfl
theorem mixK_agree {inp other needs : List Int} (h0 : ∀ n ∈ needs, 0 ≤ n) : ∀ j, j ≤ needs.length → ∀ n ∈ needs.take j, agreeAt inp (mixK inp other needs j) n
  | 0, _, n, hn => by simp at hn
  | j + 1, hj, n, hn => by
    have hx : needs[j]? = some needs[j] := List.getElem?_eq_getElem (by omega)
    rw [mixK_succ hx]
    have hjm : needs[j] ∈ needs := List.getElem_mem _
    rw [List.take_add_one, hx] at hn
    rcases List.mem_append.1 hn with h | h
    · exact mix1_agree (h0 n (List.mem_of_mem_take h)) (h0 _ hjm) (.inl (mixK_agree h0 j (by omega) n h))
    · simp at h
      exact mix1_agree (h0 n (h ▸ hjm)) (h0 _ hjm) (.inr h)
theorem mix1_len {inp xs : List Int} {n : Int} (h24 : n < 24) {M : Nat} (hM : 24 ≤ M) (h : xs.length ≤ M) : (mix1 inp xs n).length ≤ M := by
  unfold mix1 padTo; simp; omega
theorem mixK_len {inp other needs : List Int} (h24 : ∀ n ∈ needs, n < 24) {M : Nat} (hM : 24 ≤ M) (h : other.length ≤ M) : ∀ j, j ≤ needs.length → (mixK inp other needs j).length ≤ M
  | 0, _ => by simpa [mixK] using h
  | j + 1, hj => by
    have hx : needs[j]? = some needs[j] := List.getElem?_eq_getElem (by omega)
    rw [mixK_succ hx]
    exact mix1_len (h24 _ (List.getElem_mem _)) hM (mixK_len h24 hM h j (by omega))

/-! ### Clone -/
theorem clone_own {w : World} {B0 : Nat} {A : Option Addr} {c : Nat} {xs : List Int} (hs : SlI w B0 A c xs) (hbig : xs.length * 8 ≤ 140737488355328) :
    Calls Try.prog 89 #[.slice A xs.length c] w fun e w' => ∃ v, e = .returned v ∧ OwnI w' w.heap.size v xs ∧ Below w.heap.size w w' := by
  rcases A with _ | ⟨b, o, q⟩
  · refine (Try.slices_Clone_int_nil xs.length c w).mono ?_
    rintro e w' ⟨rfl, rfl⟩
    have : xs = [] := by
      rcases xs with _ | ⟨x, r⟩
      · rfl
      · obtain ⟨b, o, h, _⟩ := hs.2.2 (by simp); cases h
    subst this
    exact ⟨_, rfl, OwnOf.nil _ _, Below.refl _ _⟩
  · by_cases hn : 0 < xs.length
    · obtain ⟨b', o', he, _, hc⟩ := hs.2.2 hn
      cases he
      refine (Try.slices_Clone_int b o xs.length c xs w (Nat.le_refl _) hbig (fun j hj => ?_)).mono ?_
      · rw [hc j xs[j] (List.getElem?_eq_getElem hj), List.getD_eq_getElem?_getD, List.getElem?_eq_getElem hj]; rfl
      · rintro e w' ⟨v', rfl, h1, -, h2⟩
        rw [List.take_length] at h1
        exact ⟨v', rfl, h1, h2⟩
    · have : xs = [] := List.eq_nil_of_length_eq_zero (by omega)
      subst this
      refine (Try.slices_Clone_int_zero ⟨b, o, q⟩ c w).mono ?_
      rintro e w' ⟨v', rfl, h1, -, h2⟩
      exact ⟨v', rfl, h1, h2⟩
theorem own_some {w : World} {B : Nat} {v : Value} {xs : List Int} (h : OwnI w B v xs) (hn : 0 < xs.length) : ∃ g c, v = .slice (some ⟨g, 0, none⟩) xs.length c ∧ B ≤ g := by
  rcases h.2 with ⟨_, h0⟩ | ⟨g, cap, cur, rfl, h1, _⟩
  · omega
  · exact ⟨g, cap, rfl, h1⟩
end Go.Proofs.Ytgmcajojigedaaa
