/- The walks of Valid and known at a valid circuit. -/
import Derived.Test.YtgmcajojigedaaaGe
set_option linter.unusedSimpArgs false
set_option linter.unusedVariables false
namespace Go.Proofs.Ytgmcajojigedaaa
open Go.RowKit
open Go.ChangeMaps (setBlock heap_setBlock_same heap_setBlock_other)

theorem quiet_left {P : Program} {f : FuncId} {args : Array Value} {w : World} {n : Nat} {v : Value}
    (h : Calls P f args (w.drewN n) fun e w' => e = .returned v ∧ w.drewN n = w') : Calls P f args (w.drewN n) fun e w'' => e = .returned v ∧ ∃ m, w'' = w.drewN m :=
  h.mono fun _ _ ⟨he, hm⟩ => ⟨he, n, hm.symm⟩

theorem below_setBlock {B m k : Nat} {a w : World} {es : Array MapEntry} (h : Below B a w) (hm : w.heap[m]? = some (.map es k)) (hB : B ≤ m) (o : Obj) : Below B a (setBlock w m o) :=
  h.trans ⟨rfl, rfl, rfl, by simp [setBlock], fun i hi => heap_setBlock_other hm _ (by omega)⟩

/-- The gates of g lie behind the slice value '.slice A g.gates.length c'. -/
def CirIn (w : World) (A : Option Addr) (c : Nat) (g : GS) : Prop :=
  0 < g.gates.length → ∃ b cur, A = some ⟨b, 0, none⟩ ∧ w.heap[b]? = some (.cells cur 123 (0, 0)) ∧ ∀ (k : Nat) (p : Int × Int), g.gates[k]? = some p → w.cell? ⟨b, k * 2, none⟩ = some (.int .i64 p.1) ∧ w.cell? ⟨b, k * 2 + 1, none⟩ = some (.int .i64 p.2)
theorem gcells_get : ∀ (l : List (Int × Int)) (k : Nat) (p : Int × Int), l[k]? = some p → (gcells l)[k * 2]? = some (.int .i64 p.1) ∧ (gcells l)[k * 2 + 1]? = some (.int .i64 p.2)
  | [], _, _, h => by simp at h
  | q :: r, 0, p, h => by simp at h; subst h; simp [gcells]
  | q :: r, k + 1, p, h => by
    have ih := gcells_get r k p (by simpa using h)
    have e1 : (k + 1) * 2 = k * 2 + 2 := by omega
    have e2 : k * 2 + 2 + 1 = k * 2 + 1 + 2 := by omega
    have e3 : gcells (q :: r) = [.int .i64 q.1, .int .i64 q.2] ++ gcells r := by simp [gcells]
    rw [e1, e2, e3, List.getElem?_append_right (by simp), List.getElem?_append_right (by simp)]
    simpa using ih
theorem CirIn.of_own {w : World} {base : Nat} {A : Option Addr} {c : Nat} {g : GS} (h : w.ownsRow base 123 2 (.slice A g.gates.length c) g.gates.length (gcells g.gates)) : CirIn w A c g := by
  intro hn
  rcases h.2 with ⟨e1, h0⟩ | ⟨b, cap, cur, e1, _, hb, _⟩
  · omega
  · simp at e1
    obtain ⟨rfl, rfl⟩ := e1
    refine ⟨b, cur, rfl, hb, fun k p hk => ?_⟩
    obtain ⟨h1, h2⟩ := gcells_get _ k p hk
    have a1 := h.cells (g := b) rfl _ _ h1
    have a2 := h.cells (g := b) rfl _ _ h2
    rw [Addr.add_lit] at a1 a2
    simp only [Nat.zero_add] at a1 a2
    exact ⟨a1, a2⟩
theorem CirIn.below {w w' : World} {A : Option Addr} {c : Nat} {g : GS} (h : CirIn w A c g) (hb : Below w.heap.size w w') : CirIn w' A c g := fun hn => by
  obtain ⟨b, cur, e, hh, hc⟩ := h hn
  have hl := lt_of_some hh
  exact ⟨b, cur, e, (hb.block b hl).trans hh, fun k p hk => ⟨(hb.cell (p := ⟨b, k * 2, none⟩) hl).trans (hc k p hk).1, (hb.cell (p := ⟨b, k * 2 + 1, none⟩) hl).trans (hc k p hk).2⟩⟩

/-- The entries of the gates seen so far. -/
def sents (l : List (Int × Int)) (k : Nat) : List MapEntry := (l.take k).mapIdx fun i p => { key := gkey p, val := .bool true, born := i }
theorem sents_succ (l : List (Int × Int)) (k : Nat) {p : Int × Int} (h : l[k]? = some p) : sents l (k + 1) = sents l k ++ [MapEntry.mk (gkey p) (.bool true) k] := by
  have hk := (List.getElem?_eq_some_iff.1 h).1
  have : l.take (k + 1) = l.take k ++ [p] := by rw [List.take_add_one, h]; rfl
  unfold sents
  rw [this, List.mapIdx_append]
  simp [List.length_take]
  omega
theorem sents_get {l : List (Int × Int)} {k i : Nat} {e : MapEntry} (h : (sents l k)[i]? = some e) : ∃ p, l[i]? = some p ∧ i < k ∧ e = { key := gkey p, val := .bool true, born := i } := by
  simp only [sents, List.getElem?_mapIdx, Option.map_eq_some_iff] at h
  obtain ⟨p, h1, h2⟩ := h
  rw [List.getElem?_take] at h1
  split at h1
  · exact ⟨p, h1, by assumption, h2.symm⟩
  · cases h1
theorem sents_keys {g : GS} (hw : GWf g) (k : Nat) : KeysOk Try.prog 123 (sents g.gates k) := by
  intro e he
  obtain ⟨i, hi⟩ := List.getElem?_of_mem he
  obtain ⟨p, h1, _, rfl⟩ := sents_get hi
  have := hw.small p (List.mem_of_getElem? h1)
  exact key123 (WalkArith.wf_i64 (by omega)) (WalkArith.wf_i64 (by omega))
theorem sents_new {g : GS} (hw : GWf g) {k : Nat} {p : Int × Int} (h : g.gates[k]? = some p) : ∀ e ∈ sents g.gates k, e.key ≠ gkey p := by
  intro e he hk
  obtain ⟨i, hi⟩ := List.getElem?_of_mem he
  obtain ⟨q, h1, h2, rfl⟩ := sents_get hi
  have hq := gkey_inj hk
  subst hq
  have hl := (List.getElem?_eq_some_iff.1 h1).1
  have := (List.getElem?_inj (j := k) hl hw.nodup).1 (by rw [h1, h])
  omega

set_option maxRecDepth 100000 in
set_option maxHeartbeats 2000000 in
theorem valid_cir (g : GS) (A : Option Addr) (c : Nat) (w : World) (hw : GWf g) (hc : CirIn w A c g) :
    Calls Try.prog 73 #[.agg #[.int .i64 g.inputs, .slice A g.gates.length c]] w fun e w' => e = .returned (.bool true) ∧ Below w.heap.size w w' := by
  have hin := hw.ins
  have hi0 : decide ((g.inputs : Int) < 0) = false := decide_eq_false (by omega)
  have hi1 : decide ((1024 : Int) < g.inputs) = false := decide_eq_false (by omega)
  have hnn := hw.size
  have hl : g.gates.length ≤ 65536 := by unfold GS.nodes at hnn; omega
  have E1 : Hid ((1 : Int) + g.inputs + g.gates.length = g.nodes) := by show _ = _; unfold GS.nodes; omega
  have hge : decide ((65536 : Int) < (g.nodes : Int)) = false := decide_eq_false (by omega)
  have hmm := @run_makeMap Try.prog
  have hb1 : Below w.heap.size w (w.alloc (.cells #[.int .i64 g.inputs, .slice A g.gates.length c] 59)) := (Below.refl _ _).alloc (Nat.le_refl _) _
  have HB1 := Lib.hid hb1
  clear hnn hb1
  go_enter Try.func73, Try.ntmps73
  go_wp2_with fail
  refine (nodes_any _ _ _ _ _ (by omega) (by omega) (by omega)).mono ?_
  rintro e w1 ⟨rfl, hb2⟩
  rw [E1.out]
  have b1 : w1.heap[w.heap.size]? = some (.cells #[.int .i64 g.inputs, .slice A g.gates.length c] 59 (0, 0)) := (hb2.block w.heap.size (by simp)).trans (heap_alloc_new w _)
  have c0 : w1.cell? ⟨w.heap.size, 0, none⟩ = some (.int .i64 g.inputs) := by simp [World.cell?, b1]
  have c1 : w1.cell? ⟨w.heap.size, 1, none⟩ = some (.slice A g.gates.length c) := by simp [World.cell?, b1]
  have HB2 : Hid (Below w.heap.size w w1) := HB1.out.trans (hb2.mono (by simp))
  have hlt1 := lt_of_some b1
  have B1 := Lib.hid b1
  clear hb2 b1
  obtain ⟨m, hm⟩ : ∃ m, m = w1.heap.size := ⟨_, rfl⟩
  go_wp2_with fail
  rw [← hm]
  rw [← hm] at hlt1
  have HM := Lib.hid hm
  clear hm c0 c1
  go_loopw [4, 5, 6, 24] (fun _ _ _ i wr => ∃ k : Nat, k ≤ g.gates.length ∧ i = .int .i64 k ∧ Below w.heap.size w wr ∧ wr.heap[w.heap.size]? = some (.cells #[.int .i64 g.inputs, .slice A g.gates.length c] 59 (0, 0)) ∧ wr.heap[m]? = some (.map (sents g.gates k).toArray k)) (fun _ _ _ i _ => g.gates.length - (intOf i).toNat)
  case atStart =>
    refine ⟨0, Nat.zero_le _, rfl, HB2.out.alloc HB2.out.size _, (Below.heap_alloc w1 _ _ (by rw [← HM.out]; exact hlt1)).trans B1.out, ?_⟩
    rw [HM.out]
    have := (MapKept.heap_alloc w1 (.map #[] 0)).1
    simpa [sents] using this
  case round =>
    obtain ⟨k, hk, rfl, hbw, hbox, hmap⟩ := hrel
    have c0 : wr.cell? ⟨w.heap.size, 0, none⟩ = some (.int .i64 g.inputs) := by simp [World.cell?, hbox]
    have hltm : m < wr.heap.size := lt_of_some hmap
    have hltw : w.heap.size < wr.heap.size := lt_of_some hbox
    by_cases hlt : k < g.gates.length
    · obtain ⟨b, cur, rfl, hbb, hcc⟩ := (hc.below hbw) (by omega)
      obtain ⟨p, hp⟩ : ∃ p, g.gates[k]? = some p := ⟨_, List.getElem?_eq_getElem hlt⟩
      obtain ⟨x, y⟩ := p
      obtain ⟨k0, k1⟩ := hcc k _ hp
      obtain ⟨g1, g2, g3, g4⟩ := hw.gate k _ hp
      dsimp only at k0 k1 g1 g2 g3 g4
      have hl2 : g.inputs + g.gates.length < 65536 := by have := hw.size; unfold GS.nodes at this; omega
      have d1 : decide (x < 2) = false := decide_eq_false (by omega)
      have d2 : decide (y ≤ x) = false := decide_eq_false (by omega)
      have d3 : decide (2 * (1 + (g.inputs : Int) + (k : Int)) ≤ y) = false := decide_eq_false (by omega)
      have d4 : (y == notL x) = false := by rw [beq_eq_false_iff_ne]; exact g4
      obtain ⟨l, hl'⟩ := key123 (a := x) (b := y) (WalkArith.wf_i64 (by omega)) (WalkArith.wf_i64 (by omega))
      have hnew : ∀ e ∈ sents g.gates k, e.key ≠ .agg #[.int .i64 x, .int .i64 y] := sents_new hw hp
      have hmA : ∀ nq, ((wr.alloc (.cells #[.int .i64 x, .int .i64 y] 123)).drewN nq).heap[m]? = some (.map (sents g.gates k).toArray k) := fun nq => (Below.heap_alloc wr _ _ hltm).trans hmap
      have hrun : ∀ nq, (Instr.lookup 150 (.map (some m)) (.agg #[.int .i64 x, .int .i64 y]) false).run Try.prog ((wr.alloc (.cells #[.int .i64 x, .int .i64 y] 123)).drewN nq) = .ok (.bool false) ((wr.alloc (.cells #[.int .i64 x, .int .i64 y] 123)).drewN nq) := fun nq => by
        rcases run_lookup_at law123 false Try.underlying150 (zero4 _) (hmA nq) (sents_keys hw k) hl' with ⟨h, _⟩ | ⟨j, e, h1, h2, _⟩
        · exact h
        · exact absurd h2 (hnew e (List.mem_of_getElem? h1))
      have hupd : ∀ nq, (Instr.mapUpdate 150 (.map (some m)) (.agg #[.int .i64 x, .int .i64 y]) (.bool true)).run Try.prog ((wr.alloc (.cells #[.int .i64 x, .int .i64 y] 123)).drewN nq) = .ok () (setBlock ((wr.alloc (.cells #[.int .i64 x, .int .i64 y] 123)).drewN nq) m (.map (sents g.gates k ++ [MapEntry.mk (.agg #[.int .i64 x, .int .i64 y]) (.bool true) k]).toArray (k + 1))) :=
        fun nq => run_update_new law123 Try.underlying150 (hmA nq) (sents_keys hw k) hl' hnew
      have HP := Lib.hid hp
      have HC := Lib.hid hc
      have HMA := Lib.hid hmA
      have HBOX := Lib.hid hbox
      have HMAP := Lib.hid hmap
      have HGE := Lib.hid hw
      clear hp hcc hc hnew hmA hbox hmap hl' g4 hw
      go_wp2_with fail
      go_quiet ((go_at_call 108; exact quiet_left (not_any _ _ (by omega) (by omega))))
      go_wp2_with fail
      clear hrun hupd
      go_roundw
      case rel =>
        refine ⟨k + 1, by omega, by go_num, ?_, ?_, ?_⟩
        · exact below_setBlock (below_drewN (hbw.alloc hbw.size _) nq) (HMA.out nq) (by omega) _
        · rw [heap_setBlock_other (HMA.out nq) _ (by omega)]
          exact (Below.heap_alloc wr _ _ hltw).trans HBOX.out
        · rw [heap_setBlock_same (HMA.out nq), sents_succ _ _ HP.out]
          rfl
      case measure => simp [intOf]; omega
    · obtain rfl : k = g.gates.length := by omega
      go_wp2
      go_ret
      exact ⟨rfl, hbw⟩

set_option maxHeartbeats 1000000 in
theorem literal_gen (B0 p : Nat) (A : Option Addr) (c : Nat) (g : GS) (xs : List Int) (A' : Option Addr) (c' : Nat) (w : World) (h0 : w.cell? ⟨p, 0, none⟩ = some (.int .i64 g.inputs)) (h1 : w.cell? ⟨p, 1, none⟩ = some (.slice A g.gates.length c)) (hn : g.nodes ≤ 65536) (hs : SlI w B0 A' c' xs) (hx : ∀ x ∈ xs, isLit g x) :
    Calls Try.prog 141 #[.pointer (some ⟨p, 0, none⟩), .slice A' xs.length c'] w fun e w' => e = .returned (.bool true) ∧ Below w.heap.size w w' := by
  have hi : g.inputs ≤ 65536 := by unfold GS.nodes at hn; omega
  have hl : g.gates.length ≤ 65536 := by unfold GS.nodes at hn; omega
  have e1 : Hid ((1 : Int) + g.inputs + g.gates.length = g.nodes) := by show _ = _; unfold GS.nodes; omega
  have hbig := hs.big
  have hpl : p < w.heap.size := World.block_lt_of_cell? w _ h0
  go_enter Try.func141, Try.ntmps141
  go_wp2
  go_loopw [6, 9] (fun _ i wr => ∃ k : Nat, k ≤ xs.length ∧ i = .int .i64 k ∧ Below w.heap.size w wr) (fun _ i _ => xs.length - (intOf i).toNat)
  case atStart => exact ⟨0, Nat.zero_le _, rfl, Below.refl _ _⟩
  case round =>
    obtain ⟨k, hk, rfl, hbw⟩ := hrel
    by_cases hlt : k < xs.length
    · obtain ⟨b, o, x, rfl, hxk, hc⟩ := (hs.below hbw).at_ hlt
      obtain ⟨hx0, hx1⟩ := hx x (List.mem_of_getElem? hxk)
      have c0 := (hbw.cell (p := ⟨p, 0, none⟩) hpl).trans h0
      have c1 := (hbw.cell (p := ⟨p, 1, none⟩) hpl).trans h1
      have hd : decide (x < 0) = false := decide_eq_false (by omega)
      clear hs hx hxk h0 h1
      go_wp2_with (go_at_call 101; refine (nodes_any _ _ _ _ _ (by omega) (by omega) (by omega)).mono ?_; rintro e w' ⟨rfl, hb1⟩; rw [e1.out])
      have hb2 := hbw.trans (hb1.mono hbw.size)
      go_roundw
      case rel => exact ⟨k + 1, by omega, by go_num, hb2⟩
      case measure => simp [intOf]; omega
    · go_wp2
      go_ret
      exact ⟨rfl, hbw⟩

set_option maxHeartbeats 1000000 in
theorem known_cir (g : GS) (A : Option Addr) (c : Nat) (xs : List Int) (A' : Option Addr) (c' B0 : Nat) (w : World) (hw : GWf g) (hc : CirIn w A c g) (hs : SlI w B0 A' c' xs) (hx : ∀ x ∈ xs, isLit g x) :
    Calls Try.prog 110 #[.agg #[.int .i64 g.inputs, .slice A g.gates.length c], .slice A' xs.length c'] w fun e w' => e = .returned (.bool true) ∧ Below w.heap.size w w' := by
  have HB : Hid (Below w.heap.size w ((w.alloc (.cells #[.int .i64 g.inputs, .slice A g.gates.length c] 59)).alloc (.cells #[.int .i64 g.inputs, .slice A g.gates.length c, .map none, .int .i64 0] 116))) :=
    ((Below.refl _ _).alloc (Nat.le_refl _) _).alloc (by simp) _
  have HC := Lib.hid (hc.below HB.out)
  have HS := Lib.hid (hs.below HB.out)
  have hbig := hs.big
  have hsz := Lib.hid hw.size
  clear hc hs
  go_enter Try.func110, Try.ntmps110
  go_wp2_with fail
  refine (valid_cir g A c _ hw HC.out).mono ?_
  rintro e w1 ⟨rfl, hb1⟩
  have b0 : w1.heap[w.heap.size + 1]? = some (.cells #[.int .i64 g.inputs, .slice A g.gates.length c, .map none, .int .i64 0] 116 (0, 0)) := by
    refine (hb1.block _ (by simp)).trans ?_
    have := heap_alloc_new (w.alloc (.cells #[.int .i64 g.inputs, .slice A g.gates.length c] 59)) (.cells #[.int .i64 g.inputs, .slice A g.gates.length c, .map none, .int .i64 0] 116)
    simpa using this
  have c0 : w1.cell? ⟨w.heap.size + 1, 0, none⟩ = some (.int .i64 g.inputs) := by simp [World.cell?, b0]
  have c1 : w1.cell? ⟨w.heap.size + 1, 1, none⟩ = some (.slice A g.gates.length c) := by simp [World.cell?, b0]
  have HS1 := Lib.hid (HS.out.below hb1)
  have HB1 : Hid (Below w.heap.size w w1) := HB.out.trans (hb1.mono (by simp; omega))
  clear hb1 b0
  go_wp2_with fail
  refine (literal_gen B0 _ A c g xs A' c' w1 c0 c1 hsz.out HS1.out hx).mono ?_
  rintro e w2 ⟨rfl, hb2⟩
  go_wp2_with fail
  go_ret
  exact ⟨rfl, HB1.out.trans (hb2.mono HB1.out.size)⟩
end Go.Proofs.Ytgmcajojigedaaa
