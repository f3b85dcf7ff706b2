/- The walks of Valid and known at a valid circuit. The walks of gates.Eval and of the function literal inside it. -/
import Derived.Test.YtgmcajojigedaaaGc
set_option linter.unusedSimpArgs false
set_option linter.unusedVariables false
namespace Go.Proofs.Ytgmcajojigedaaa
open Go.RowKit
open Go.ChangeMaps (setBlock heap_setBlock_same heap_setBlock_other)

theorem quiet_left {P : Program} {f : FuncId} {args : Array Value} {w : World} {n : Nat} {v : Value}
    (h : Calls P f args (w.drewN n) fun e w' => e = .returned v ∧ w.drewN n = w') : Calls P f args (w.drewN n) fun e w'' => e = .returned v ∧ ∃ m, w'' = w.drewN m :=
  h.mono fun _ _ ⟨he, hm⟩ => ⟨he, n, hm.symm⟩

theorem below_setBlock {B m k : Nat} {a w : World} {es : Array MapEntry} (h : Below B a w) (hm : w.heap[m]? = some (.map es k)) (hB : B ≤ m) (o : Obj) : Below B a (setBlock w m o) :=
  h.trans ⟨rfl, rfl, rfl, by simp [setBlock], fun i hi => heap_setBlock_other hm _ (by omega)⟩

/-- The gates of g lie behind the slice value '.slice A g.gates.length c'. -/
def CirIn (w : World) (A : Option Addr) (c : Nat) (g : GS) : Prop :=
  0 < g.gates.length → ∃ b cur, A = some ⟨b, 0, none⟩ ∧ w.heap[b]? = some (.cells cur 123 (0, 0)) ∧ ∀ (k : Nat) (p : Int × Int), g.gates[k]? = some p → w.cell? ⟨b, k * 2, none⟩ = some (.int .i64 p.1) ∧ w.cell? ⟨b, k * 2 + 1, none⟩ = some (.int .i64 p.2)
theorem gcells_get : ∀ (l : List (Int × Int)) (k : Nat) (p : Int × Int), l[k]? = some p → (gcells l)[k * 2]? = some (.int .i64 p.1) ∧ (gcells l)[k * 2 + 1]? = some (.int .i64 p.2)
  | [], _, _, h => by simp at h
  | q :: r, 0, p, h => by simp at h; subst h; simp [gcells]
  | q :: r, k + 1, p, h => by
    have ih := gcells_get r k p (by simpa using h)
    have e1 : (k + 1) * 2 = k * 2 + 2 := by omega
    have e2 : k * 2 + 2 + 1 = k * 2 + 1 + 2 := by omega
    have e3 : gcells (q :: r) = [.int .i64 q.1, .int .i64 q.2] ++ gcells r := by simp [gcells]
    rw [e1, e2, e3, List.getElem?_append_right (by simp), List.getElem?_append_right (by simp)]
    simpa using ih
theorem CirIn.of_own {w : World} {base : Nat} {A : Option Addr} {c : Nat} {g : GS} (h : w.ownsRow base 123 2 (.slice A g.gates.length c) g.gates.length (gcells g.gates)) : CirIn w A c g := by
  intro hn
  rcases h.2 with ⟨e1, h0⟩ | ⟨b, cap, cur, e1, _, hb, _⟩
  · omega
  · simp at e1
    obtain ⟨rfl, rfl⟩ := e1
    refine ⟨b, cur, rfl, hb, fun k p hk => ?_⟩
    obtain ⟨h1, h2⟩ := gcells_get _ k p hk
    have a1 := h.cells (g := b) rfl _ _ h1
    have a2 := h.cells (g := b) rfl _ _ h2
    rw [Addr.add_lit] at a1 a2
    simp only [Nat.zero_add] at a1 a2
    exact ⟨a1, a2⟩
theorem CirIn.below {w w' : World} {A : Option Addr} {c : Nat} {g : GS} (h : CirIn w A c g) (hb : Below w.heap.size w w') : CirIn w' A c g := fun hn => by
  obtain ⟨b, cur, e, hh, hc⟩ := h hn
  have hl := lt_of_some hh
  exact ⟨b, cur, e, (hb.block b hl).trans hh, fun k p hk => ⟨(hb.cell (p := ⟨b, k * 2, none⟩) hl).trans (hc k p hk).1, (hb.cell (p := ⟨b, k * 2 + 1, none⟩) hl).trans (hc k p hk).2⟩⟩

/-- The entries of the gates seen so far. -/
def sents (l : List (Int × Int)) (k : Nat) : List MapEntry := (l.take k).mapIdx fun i p => { key := gkey p, val := .bool true, born := i }
theorem sents_succ (l : List (Int × Int)) (k : Nat) {p : Int × Int} (h : l[k]? = some p) : sents l (k + 1) = sents l k ++ [MapEntry.mk (gkey p) (.bool true) k] := by
  have hk := (List.getElem?_eq_some_iff.1 h).1
  have : l.take (k + 1) = l.take k ++ [p] := by rw [List.take_add_one, h]; rfl
  unfold sents
  rw [this, List.mapIdx_append]
  simp [List.length_take]
  omega
theorem sents_get {l : List (Int × Int)} {k i : Nat} {e : MapEntry} (h : (sents l k)[i]? = some e) : ∃ p, l[i]? = some p ∧ i < k ∧ e = { key := gkey p, val := .bool true, born := i } := by
  simp only [sents, List.getElem?_mapIdx, Option.map_eq_some_iff] at h
  obtain ⟨p, h1, h2⟩ := h
  rw [List.getElem?_take] at h1
  split at h1
  · exact ⟨p, h1, by assumption, h2.symm⟩
  · cases h1
theorem sents_keys {g : GS} (hw : GWf g) (k : Nat) : KeysOk Try.prog 123 (sents g.gates k) := by
  intro e he
  obtain ⟨i, hi⟩ := List.getElem?_of_mem he
  obtain ⟨p, h1, _, rfl⟩ := sents_get hi
  have := hw.small p (List.mem_of_getElem? h1)
  exact key123 (WalkArith.wf_i64 (by omega)) (WalkArith.wf_i64 (by omega))
theorem sents_new {g : GS} (hw : GWf g) {k : Nat} {p : Int × Int} (h : g.gates[k]? = some p) : ∀ e ∈ sents g.gates k, e.key ≠ gkey p := by
  intro e he hk
  obtain ⟨i, hi⟩ := List.getElem?_of_mem he
  obtain ⟨q, h1, h2, rfl⟩ := sents_get hi
  have hq := gkey_inj hk
  subst hq
  have hl := (List.getElem?_eq_some_iff.1 h1).1
  have := (List.getElem?_inj (j := k) hl hw.nodup).1 (by rw [h1, h])
  omega

set_option maxRecDepth 100000 in
set_option maxHeartbeats 2000000 in
theorem valid_cir (g : GS) (A : Option Addr) (c : Nat) (w : World) (hw : GWf g) (hc : CirIn w A c g) :
    Calls Try.prog 73 #[.agg #[.int .i64 g.inputs, .slice A g.gates.length c]] w fun e w' => e = .returned (.bool true) ∧ Below w.heap.size w w' := by
  have hin := hw.ins
  have hi0 : decide ((g.inputs : Int) < 0) = false := decide_eq_false (by omega)
  have hi1 : decide ((1024 : Int) < g.inputs) = false := decide_eq_false (by omega)
  have hnn := hw.size
  have hl : g.gates.length ≤ 65536 := by unfold GS.nodes at hnn; omega
  have E1 : Hid ((1 : Int) + g.inputs + g.gates.length = g.nodes) := by show _ = _; unfold GS.nodes; omega
  have hge : decide ((65536 : Int) < (g.nodes : Int)) = false := decide_eq_false (by omega)
  have hmm := @run_makeMap Try.prog
  have hb1 : Below w.heap.size w (w.alloc (.cells #[.int .i64 g.inputs, .slice A g.gates.length c] 59)) := (Below.refl _ _).alloc (Nat.le_refl _) _
  have HB1 := Lib.hid hb1
  clear hnn hb1
  go_enter Try.func73, Try.ntmps73
  go_wp2_with fail
  refine (nodes_any _ _ _ _ _ (by omega) (by omega) (by omega)).mono ?_
  rintro e w1 ⟨rfl, hb2⟩
  rw [E1.out]
  have b1 : w1.heap[w.heap.size]? = some (.cells #[.int .i64 g.inputs, .slice A g.gates.length c] 59 (0, 0)) := (hb2.block w.heap.size (by simp)).trans (heap_alloc_new w _)
  have c0 : w1.cell? ⟨w.heap.size, 0, none⟩ = some (.int .i64 g.inputs) := by simp [World.cell?, b1]
  have c1 : w1.cell? ⟨w.heap.size, 1, none⟩ = some (.slice A g.gates.length c) := by simp [World.cell?, b1]
  have HB2 : Hid (Below w.heap.size w w1) := HB1.out.trans (hb2.mono (by simp))
  have hlt1 := lt_of_some b1
  have B1 := Lib.hid b1
  clear hb2 b1
  obtain ⟨m, hm⟩ : ∃ m, m = w1.heap.size := ⟨_, rfl⟩
  go_wp2_with fail
  rw [← hm]
  rw [← hm] at hlt1
  have HM := Lib.hid hm
  clear hm c0 c1
  go_loopw [4, 5, 6, 24] (fun _ _ _ i wr => ∃ k : Nat, k ≤ g.gates.length ∧ i = .int .i64 k ∧ Below w.heap.size w wr ∧ wr.heap[w.heap.size]? = some (.cells #[.int .i64 g.inputs, .slice A g.gates.length c] 59 (0, 0)) ∧ wr.heap[m]? = some (.map (sents g.gates k).toArray k)) (fun _ _ _ i _ => g.gates.length - (intOf i).toNat)
  case atStart =>
    refine ⟨0, Nat.zero_le _, rfl, HB2.out.alloc HB2.out.size _, (Below.heap_alloc w1 _ _ (by rw [← HM.out]; exact hlt1)).trans B1.out, ?_⟩
    rw [HM.out]
    have := (MapKept.heap_alloc w1 (.map #[] 0)).1
    simpa [sents] using this
  case round =>
    obtain ⟨k, hk, rfl, hbw, hbox, hmap⟩ := hrel
    have c0 : wr.cell? ⟨w.heap.size, 0, none⟩ = some (.int .i64 g.inputs) := by simp [World.cell?, hbox]
    have hltm : m < wr.heap.size := lt_of_some hmap
    have hltw : w.heap.size < wr.heap.size := lt_of_some hbox
    by_cases hlt : k < g.gates.length
    · obtain ⟨b, cur, rfl, hbb, hcc⟩ := (hc.below hbw) (by omega)
      obtain ⟨p, hp⟩ : ∃ p, g.gates[k]? = some p := ⟨_, List.getElem?_eq_getElem hlt⟩
      obtain ⟨x, y⟩ := p
      obtain ⟨k0, k1⟩ := hcc k _ hp
      obtain ⟨g1, g2, g3, g4⟩ := hw.gate k _ hp
      dsimp only at k0 k1 g1 g2 g3 g4
      have hl2 : g.inputs + g.gates.length < 65536 := by have := hw.size; unfold GS.nodes at this; omega
      have d1 : decide (x < 2) = false := decide_eq_false (by omega)
      have d2 : decide (y ≤ x) = false := decide_eq_false (by omega)
      have d3 : decide (2 * (1 + (g.inputs : Int) + (k : Int)) ≤ y) = false := decide_eq_false (by omega)
      have d4 : (y == notL x) = false := by rw [beq_eq_false_iff_ne]; exact g4
      obtain ⟨l, hl'⟩ := key123 (a := x) (b := y) (WalkArith.wf_i64 (by omega)) (WalkArith.wf_i64 (by omega))
      have hnew : ∀ e ∈ sents g.gates k, e.key ≠ .agg #[.int .i64 x, .int .i64 y] := sents_new hw hp
      have hmA : ∀ nq, ((wr.alloc (.cells #[.int .i64 x, .int .i64 y] 123)).drewN nq).heap[m]? = some (.map (sents g.gates k).toArray k) := fun nq => (Below.heap_alloc wr _ _ hltm).trans hmap
      have hrun : ∀ nq, (Instr.lookup 150 (.map (some m)) (.agg #[.int .i64 x, .int .i64 y]) false).run Try.prog ((wr.alloc (.cells #[.int .i64 x, .int .i64 y] 123)).drewN nq) = .ok (.bool false) ((wr.alloc (.cells #[.int .i64 x, .int .i64 y] 123)).drewN nq) := fun nq => by
        rcases run_lookup_at law123 false Try.underlying150 (zero4 _) (hmA nq) (sents_keys hw k) hl' with ⟨h, _⟩ | ⟨j, e, h1, h2, _⟩
        · exact h
        · exact absurd h2 (hnew e (List.mem_of_getElem? h1))
      have hupd : ∀ nq, (Instr.mapUpdate 150 (.map (some m)) (.agg #[.int .i64 x, .int .i64 y]) (.bool true)).run Try.prog ((wr.alloc (.cells #[.int .i64 x, .int .i64 y] 123)).drewN nq) = .ok () (setBlock ((wr.alloc (.cells #[.int .i64 x, .int .i64 y] 123)).drewN nq) m (.map (sents g.gates k ++ [MapEntry.mk (.agg #[.int .i64 x, .int .i64 y]) (.bool true) k]).toArray (k + 1))) :=
        fun nq => run_update_new law123 Try.underlying150 (hmA nq) (sents_keys hw k) hl' hnew
      have HP := Lib.hid hp
      have HC := Lib.hid hc
      have HMA := Lib.hid hmA
      have HBOX := Lib.hid hbox
      have HMAP := Lib.hid hmap
      have HGE := Lib.hid hw
      clear hp hcc hc hnew hmA hbox hmap hl' g4 hw
      go_wp2_with fail
      go_quiet ((go_at_call 108; exact quiet_left (not_any _ _ (by omega) (by omega))))
      go_wp2_with fail
      clear hrun hupd
      go_roundw
      case rel =>
        refine ⟨k + 1, by omega, by go_num, ?_, ?_, ?_⟩
        · exact below_setBlock (below_drewN (hbw.alloc hbw.size _) nq) (HMA.out nq) (by omega) _
        · rw [heap_setBlock_other (HMA.out nq) _ (by omega)]
          exact (Below.heap_alloc wr _ _ hltw).trans HBOX.out
        · rw [heap_setBlock_same (HMA.out nq), sents_succ _ _ HP.out]
          rfl
      case measure => simp [intOf]; omega
    · obtain rfl : k = g.gates.length := by omega
      go_wp2
      go_ret
      exact ⟨rfl, hbw⟩

set_option maxHeartbeats 1000000 in
theorem literal_gen (B0 p : Nat) (A : Option Addr) (c : Nat) (g : GS) (xs : List Int) (A' : Option Addr) (c' : Nat) (w : World) (h0 : w.cell? ⟨p, 0, none⟩ = some (.int .i64 g.inputs)) (h1 : w.cell? ⟨p, 1, none⟩ = some (.slice A g.gates.length c)) (hn : g.nodes ≤ 65536) (hs : SlI w B0 A' c' xs) (hx : ∀ x ∈ xs, isLit g x) :
    Calls Try.prog 141 #[.pointer (some ⟨p, 0, none⟩), .slice A' xs.length c'] w fun e w' => e = .returned (.bool true) ∧ Below w.heap.size w w' := by
  have hi : g.inputs ≤ 65536 := by unfold GS.nodes at hn; omega
  have hl : g.gates.length ≤ 65536 := by unfold GS.nodes at hn; omega
  have e1 : Hid ((1 : Int) + g.inputs + g.gates.length = g.nodes) := by show _ = _; unfold GS.nodes; omega
  have hbig := hs.big
  have hpl : p < w.heap.size := World.block_lt_of_cell? w _ h0
  go_enter Try.func141, Try.ntmps141
  go_wp2
  go_loopw [6, 9] (fun _ i wr => ∃ k : Nat, k ≤ xs.length ∧ i = .int .i64 k ∧ Below w.heap.size w wr) (fun _ i _ => xs.length - (intOf i).toNat)
  case atStart => exact ⟨0, Nat.zero_le _, rfl, Below.refl _ _⟩
  case round =>
    obtain ⟨k, hk, rfl, hbw⟩ := hrel
    by_cases hlt : k < xs.length
    · obtain ⟨b, o, x, rfl, hxk, hc⟩ := (hs.below hbw).at_ hlt
      obtain ⟨hx0, hx1⟩ := hx x (List.mem_of_getElem? hxk)
      have c0 := (hbw.cell (p := ⟨p, 0, none⟩) hpl).trans h0
      have c1 := (hbw.cell (p := ⟨p, 1, none⟩) hpl).trans h1
      have hd : decide (x < 0) = false := decide_eq_false (by omega)
      clear hs hx hxk h0 h1
      go_wp2_with (go_at_call 101; refine (nodes_any _ _ _ _ _ (by omega) (by omega) (by omega)).mono ?_; rintro e w' ⟨rfl, hb1⟩; rw [e1.out])
      have hb2 := hbw.trans (hb1.mono hbw.size)
      go_roundw
      case rel => exact ⟨k + 1, by omega, by go_num, hb2⟩
      case measure => simp [intOf]; omega
    · go_wp2
      go_ret
      exact ⟨rfl, hbw⟩

set_option maxHeartbeats 1000000 in
theorem known_cir (g : GS) (A : Option Addr) (c : Nat) (xs : List Int) (A' : Option Addr) (c' B0 : Nat) (w : World) (hw : GWf g) (hc : CirIn w A c g) (hs : SlI w B0 A' c' xs) (hx : ∀ x ∈ xs, isLit g x) :
    Calls Try.prog 110 #[.agg #[.int .i64 g.inputs, .slice A g.gates.length c], .slice A' xs.length c'] w fun e w' => e = .returned (.bool true) ∧ Below w.heap.size w w' := by
  have HB : Hid (Below w.heap.size w ((w.alloc (.cells #[.int .i64 g.inputs, .slice A g.gates.length c] 59)).alloc (.cells #[.int .i64 g.inputs, .slice A g.gates.length c, .map none, .int .i64 0] 116))) :=
    ((Below.refl _ _).alloc (Nat.le_refl _) _).alloc (by simp) _
  have HC := Lib.hid (hc.below HB.out)
  have HS := Lib.hid (hs.below HB.out)
  have hbig := hs.big
  have hsz := Lib.hid hw.size
  clear hc hs
  go_enter Try.func110, Try.ntmps110
  go_wp2_with fail
  refine (valid_cir g A c _ hw HC.out).mono ?_
  rintro e w1 ⟨rfl, hb1⟩
  have b0 : w1.heap[w.heap.size + 1]? = some (.cells #[.int .i64 g.inputs, .slice A g.gates.length c, .map none, .int .i64 0] 116 (0, 0)) := by
    refine (hb1.block _ (by simp)).trans ?_
    have := heap_alloc_new (w.alloc (.cells #[.int .i64 g.inputs, .slice A g.gates.length c] 59)) (.cells #[.int .i64 g.inputs, .slice A g.gates.length c, .map none, .int .i64 0] 116)
    simpa using this
  have c0 : w1.cell? ⟨w.heap.size + 1, 0, none⟩ = some (.int .i64 g.inputs) := by simp [World.cell?, b0]
  have c1 : w1.cell? ⟨w.heap.size + 1, 1, none⟩ = some (.slice A g.gates.length c) := by simp [World.cell?, b0]
  have HS1 := Lib.hid (HS.out.below hb1)
  have HB1 : Hid (Below w.heap.size w w1) := HB.out.trans (hb1.mono (by simp; omega))
  clear hb1 b0
  go_wp2_with fail
  refine (literal_gen B0 _ A c g xs A' c' w1 c0 c1 hsz.out HS1.out hx).mono ?_
  rintro e w2 ⟨rfl, hb2⟩
  go_wp2_with fail
  go_ret
  exact ⟨rfl, HB1.out.trans (hb2.mono HB1.out.size)⟩
end Go.Proofs.Ytgmcajojigedaaa
namespace Go.Proofs.Ytgmcajojigedaaa
open Go.RowKit

/-- The value of a literal, the values of the nodes given. -/
def litV (vs : List Bool) (x : Int) : Bool := vs.getD (x / 2).toNat false != (x % 2 == 1)

theorem eval1_any (vs : List Bool) (V : Nat) (A : Option Addr) (c B0 : Nat) (x : Int) (w : World) (h0 : 0 ≤ x) (h1 : x < 2 * (vs.length : Int)) (hv : w.cell? ⟨V, 0, none⟩ = some (.slice A vs.length c)) (hs : SlB w B0 A c vs) :
    Calls Try.prog 111 #[.int .i64 x, .pointer (some ⟨V, 0, none⟩)] w fun e w' => e = .returned (.bool (litV vs x)) ∧ w = w' := by
  have hbig := hs.big
  obtain ⟨n, rfl⟩ := Int.eq_ofNat_of_zero_le h0
  obtain ⟨b, o, y, rfl, hy, hc⟩ := hs.at_ (k := n / 2) (by omega)
  have hlt : n / 2 < vs.length := by omega
  have e1 : litV vs n = (y != ((n : Int) % 2 == 1)) := by
    unfold litV
    have : ((n : Int) / 2).toNat = n / 2 := by omega
    rw [this]
    simp [List.getD, hy]
  have E1 := Lib.hid e1
  clear hs hy e1
  go_enter Try.func111, Try.ntmps111
  go_wp2
  go_ret
  exact ⟨by rw [E1.out]; rfl, rfl⟩

/-- The values of the nodes: the constant, the inputs, and k gates. -/
def valsF (g : GS) (ins : List Bool) : Nat → List Bool
  | 0 => false :: ins
  | k + 1 => valsF g ins k ++ [match g.gates[k]? with | some p => litV (valsF g ins k) p.1 && litV (valsF g ins k) p.2 | none => false]
theorem valsF_length (g : GS) (ins : List Bool) : ∀ k, (valsF g ins k).length = 1 + ins.length + k
  | 0 => by simp [valsF]; omega
  | k + 1 => by simp [valsF, valsF_length g ins k]; omega
theorem valsF_succ (g : GS) (ins : List Bool) (k : Nat) {x y : Int} (h : g.gates[k]? = some (x, y)) : valsF g ins (k + 1) = valsF g ins k ++ [litV (valsF g ins k) x && litV (valsF g ins k) y] := by simp [valsF, h]
def valuesF (g : GS) (ins : List Bool) : List Bool := valsF g ins g.gates.length

def EvalRet (w : World) (bs : List Bool) (e : Ending) (w' : World) : Prop :=
  ∃ v, e = .returned (.tuple #[v, .int .i64 0]) ∧ OwnB w' w.heap.size v bs ∧ Below w.heap.size w w'

set_option maxRecDepth 100000 in
set_option maxHeartbeats 4000000 in
theorem geval_any (g : GS) (A : Option Addr) (c : Nat) (ins : List Bool) (A1 : Option Addr) (c1 : Nat) (xs : List Int) (A' : Option Addr) (c' B0 : Nat) (w : World) (hB : B0 ≤ w.heap.size) (hw : GWf g) (hc : CirIn w A c g) (hins : SlB w B0 A1 c1 ins) (hlen : ins.length = g.inputs)
    (hs : SlI w B0 A' c' xs) (hx : ∀ x ∈ xs, isLit g x) (hxl : xs.length ≤ 1000000) :
    Calls Try.prog 49 #[.agg #[.int .i64 g.inputs, .slice A g.gates.length c], .slice A1 ins.length c1, .slice A' xs.length c'] w (EvalRet w (xs.map (litV (valuesF g ins)))) := by
  have hne : ((ins.length : Int) != (g.inputs : Int)) = false := by simp [hlen]
  have hb1 : Below w.heap.size w (w.alloc (.cells #[.int .i64 g.inputs, .slice A g.gates.length c] 59)) := (Below.refl _ _).alloc (Nat.le_refl _) _
  have HB1 := Lib.hid hb1
  have hsz := hw.size
  have hin := hw.ins
  have hbig := hs.big
  have hgl : g.gates.length ≤ 65536 := by unfold GS.nodes at hsz; omega
  have HL := Lib.hid hlen
  have HC := Lib.hid hc
  have HI := Lib.hid hins
  have HS := Lib.hid hs
  clear hb1 hc hins hs hlen hsz
  go_enter Try.func49, Try.ntmps49
  go_wp2_with fail
  refine (known_cir g A c xs A' c' B0 _ hw (HC.out.below HB1.out) (HS.out.below HB1.out) hx).mono ?_
  rintro e w1 ⟨rfl, hb2⟩
  have b1 : w1.heap[w.heap.size]? = some (.cells #[.int .i64 g.inputs, .slice A g.gates.length c] 59 (0, 0)) := (hb2.block w.heap.size (by simp)).trans (heap_alloc_new w _)
  have c0 : w1.cell? ⟨w.heap.size, 0, none⟩ = some (.int .i64 g.inputs) := by simp [World.cell?, b1]
  have k1 : w1.cell? ⟨w.heap.size, 1, none⟩ = some (.slice A g.gates.length c) := by simp [World.cell?, b1]
  have HB2 : Hid (Below w.heap.size w w1) := HB1.out.trans (hb2.mono (by simp))
  have B1 := Lib.hid b1
  have hlt1 : w.heap.size < w1.heap.size := lt_of_some b1
  have HI1 := Lib.hid (HI.out.below HB2.out)
  have hib := HI.out.big
  clear hb2 b1
  go_wp2_with (at_builtin; refine wpList_append_src _ rfl _ _ _ rfl w.heap.size 4 _ 1 1 Try.underlying27 Try.info4 rfl (by decide) _ _ _ (own_new Value.bool 4 w1 w.heap.size (Nat.le_of_lt hlt1) [false] (by simp)) rfl A1 ins.length c1 (ins.map Value.bool) rfl (by simp) ?s1 ?s2 ?s3 ?s4 ?s5 ?_)
  case s1 =>
    intro h0
    obtain ⟨b, o, e1, _, hcc⟩ := HI1.out.2.2 h0
    refine ⟨_, e1, fun j u hu => ?_⟩
    rw [Addr.add_lit]
    simp only [List.getElem?_map, Option.map_eq_some_iff] at hu
    obtain ⟨t, ht, rfl⟩ := hu
    have := hcc j t ht
    exact (World.cell?_alloc_lt w1 _ _ (World.block_lt_of_cell? w1 _ this)).trans this
  case s2 => intro u hu; obtain ⟨t, _, rfl⟩ := List.mem_map.1 hu; rfl
  case s3 => have := HL.out; simp only [List.length_singleton]; unfold maxLen; omega
  case s4 => have := HL.out; simp only [List.length_singleton]; omega
  case s5 => simp; omega
  intro v' w2 hown2 hgr2
  obtain ⟨A2, c2, rfl⟩ := own_shape hown2
  have HO2 : Hid (OwnB w2 w.heap.size (.slice A2 (1 + ins.length) c2) (false :: ins)) := by
    show OwnOf _ _ _ _ _ _
    unfold OwnOf
    have e1 : (false :: ins).length = 1 + ins.length := by simp; omega
    rw [e1]
    exact hown2
  have HG2 : Hid (w1.grownBy w2 none) := by
    refine ⟨hgr2.os, hgr2.tape, hgr2.output, by have := hgr2.size; simp at this; omega, fun k hk _ => ?_⟩
    exact (hgr2.block k (by simp; omega) (by simp [Value.ownBlock]; omega)).trans (Below.heap_alloc w1 _ k hk)
  have hlt2 : w.heap.size < w2.heap.size := by have := HG2.out.size; omega
  have b2 : w2.heap[w.heap.size]? = some (.cells #[.int .i64 g.inputs, .slice A g.gates.length c] 59 (0, 0)) := (HG2.out.block _ hlt1 (by simp)).trans B1.out
  have k2 : w2.cell? ⟨w.heap.size, 1, none⟩ = some (.slice A g.gates.length c) := by simp [World.cell?, b2]
  have HB3 : Hid (Below w.heap.size w w2) := HB2.out.trans ⟨HG2.out.os, HG2.out.tape, HG2.out.output, HG2.out.size, fun k hk => HG2.out.block k (by omega) (by simp)⟩
  have B2 := Lib.hid b2
  clear hown2 hgr2 b2 c0 k1 HI1
  obtain ⟨V, hV⟩ : ∃ V, V = w2.heap.size := ⟨_, rfl⟩
  go_wp2_with fail
  rw [← hV]
  have hVlt : w.heap.size < V := by omega
  have HV := Lib.hid hV
  clear hV k2
  go_loopw [11, 33] (fun _ i wr => ∃ k : Nat, k ≤ g.gates.length ∧ i = .int .i64 k ∧ Below w.heap.size w wr ∧ wr.heap[w.heap.size]? = some (.cells #[.int .i64 g.inputs, .slice A g.gates.length c] 59 (0, 0)) ∧ ∃ A2 c2, wr.heap[V]? = some (.cells #[.slice A2 (valsF g ins k).length c2] 27 (0, 0)) ∧ OwnB wr w.heap.size (.slice A2 (valsF g ins k).length c2) (valsF g ins k)) (fun _ i _ => g.gates.length - (intOf i).toNat)
  case atStart =>
    have e1 : (valsF g ins 0).length = 1 + ins.length := by rw [valsF_length]; rfl
    refine ⟨0, Nat.zero_le _, rfl, HB3.out.alloc HB3.out.size _, (Below.heap_alloc w2 _ _ hlt2).trans B2.out, A2, c2, ?_, ?_⟩
    · rw [e1, HV.out]; exact heap_alloc_new w2 _
    · rw [e1]; exact OwnOf.alloc HO2.out _
  case round =>
    obtain ⟨k, hk, rfl, hbw, hbox, A2, c2, hVw, hown⟩ := hrel
    by_cases hlt : k < g.gates.length
    · obtain ⟨b, cur, rfl, hbb, hcc⟩ := (HC.out.below hbw) (by omega)
      obtain ⟨p, hp⟩ : ∃ p, g.gates[k]? = some p := ⟨_, List.getElem?_eq_getElem hlt⟩
      obtain ⟨x, y⟩ := p
      obtain ⟨kk0, kk1⟩ := hcc k _ hp
      obtain ⟨g1, g2, g3, g4⟩ := hw.gate k _ hp
      dsimp only at kk0 kk1 g1 g2 g3 g4
      have hvl := valsF_length g ins k
      have hll := HL.out
      have hx0 : 0 ≤ x := by omega
      have hy0 : 0 ≤ y := by omega
      have hx1 : x < 2 * ((valsF g ins k).length : Int) := by omega
      have hy1 : y < 2 * ((valsF g ins k).length : Int) := by omega
      have hlk : Hid (1 + ins.length + k ≤ 100000) := by show _ ≤ _; omega
      have HP := Lib.hid hp
      have HX := Lib.hid (show 0 ≤ x ∧ x < 2 * ((valsF g ins k).length : Int) from ⟨hx0, hx1⟩)
      clear hp hcc g4 hvl hll hbb
      have hltV : V < wr.heap.size := lt_of_some hVw
      have hltB : w.heap.size < wr.heap.size := lt_of_some hbox
      have al : ∀ (q : Addr) (u : Value), wr.cell? q = some u → ((wr.alloc (.cells #[.int .i64 x, .int .i64 y] 123)).drew).cell? q = some u := fun q u h => (World.cell?_alloc_lt wr _ q (World.block_lt_of_cell? wr q h)).trans h
      have hVd : ((wr.alloc (.cells #[.int .i64 x, .int .i64 y] 123)).drew).heap[V]? = some (.cells #[.slice A2 (valsF g ins k).length c2] 27 (0, 0)) := (Below.heap_alloc wr _ _ hltV).trans hVw
      have hXd : ((wr.alloc (.cells #[.int .i64 x, .int .i64 y] 123)).drew).heap[wr.heap.size]? = some (.cells #[.int .i64 x, .int .i64 y] 123 (0, 0)) := heap_alloc_new wr _
      have hBoxd : ((wr.alloc (.cells #[.int .i64 x, .int .i64 y] 123)).drew).heap[w.heap.size]? = some (.cells #[.int .i64 g.inputs, .slice (some ⟨b, 0, none⟩) g.gates.length c] 59 (0, 0)) := (Below.heap_alloc wr _ _ hltB).trans hbox
      have hBd : Below w.heap.size w ((wr.alloc (.cells #[.int .i64 x, .int .i64 y] 123)).drew) := (hbw.alloc hbw.size _).drew
      have f0 : ((wr.alloc (.cells #[.int .i64 x, .int .i64 y] 123)).drew).cell? ⟨V, 0, none⟩ = some (.slice A2 (valsF g ins k).length c2) := by simp only [World.cell?, hVd]; rfl
      have f3 : ((wr.alloc (.cells #[.int .i64 x, .int .i64 y] 123)).drew).cell? ⟨wr.heap.size, 0, none⟩ = some (.int .i64 x) := by simp only [World.cell?, hXd]; rfl
      have f8 : ((wr.alloc (.cells #[.int .i64 x, .int .i64 y] 123)).drew).cell? ⟨wr.heap.size, 1, none⟩ = some (.int .i64 y) := by simp only [World.cell?, hXd]; rfl
      have hOwn : OwnB ((wr.alloc (.cells #[.int .i64 x, .int .i64 y] 123)).drew) w.heap.size (.slice A2 (valsF g ins k).length c2) (valsF g ins k) := (OwnOf.alloc hown _).drew
      have hsl : SlB ((wr.alloc (.cells #[.int .i64 x, .int .i64 y] 123)).drew) B0 A2 c2 (valsF g ins k) := by
        obtain ⟨A', c', e1, h⟩ := hOwn.sl B0
        injection e1 with e1 _ e2
        subst e1 e2
        exact h
      have hsl := Lib.hid hsl
      have HOwn := Lib.hid hOwn
      clear hOwn al hown hVw hbox hbw
      cases hv0 : litV (valsF g ins k) x with
      | true =>
        go_wp2_with fail
        refine wp_region_G [4, 9, 11, 12, 13] [(0, fun w' => w'.cell? ⟨V, 0, none⟩ = some (.slice A2 (valsF g ins k).length c2)), (3, fun w' => w'.cell? ⟨wr.heap.size, 0, none⟩ = some (.int .i64 x)), (8, fun w' => w'.cell? ⟨wr.heap.size, 1, none⟩ = some (.int .i64 y))] (by kernel_rfl) ?_
        generalize hwd : ((wr.alloc (.cells #[.int .i64 x, .int .i64 y] 123)).drew) = wd at f0 f3 f8 hVd hXd hBoxd hBd HOwn hsl ⊢
        clear hwd
        refine wpG_take (i := 0) (v := ?_) rfl (by kernel_rfl) rfl (by kernel_rfl) (by kernel_rfl) (fun _ _ _ h => h) (by rfl) ?_ (by simp [asksOf]; exact f0) ?_
        rotate_left
        · intro w hw; simp [asksOf] at hw; go_simp; rfl
        simp only [Act.put, List.getElem_toArray, List.getElem_cons_zero, List.getElem_cons_succ, List.setIfInBounds_toArray, List.set_cons_zero, List.set_cons_succ]
        refine wpG_take (i := 1) (v := ?_) rfl (by kernel_rfl) rfl (by kernel_rfl) (by kernel_rfl) (fun _ _ _ h => h) (by rfl) ?_ (asks_none rfl _) ?_
        rotate_left
        · intro w _; go_simp; rfl
        simp only [Act.put, List.getElem_toArray, List.getElem_cons_zero, List.getElem_cons_succ, List.setIfInBounds_toArray, List.set_cons_zero, List.set_cons_succ]
        refine wpG_take (i := 2) (v := ?_) rfl (by kernel_rfl) rfl (by kernel_rfl) (by kernel_rfl) (fun _ _ _ h => h) (by rfl) ?_ (asks_none rfl _) ?_
        rotate_left
        · intro w _; go_simp; rfl
        simp only [Act.put, List.getElem_toArray, List.getElem_cons_zero, List.getElem_cons_succ, List.setIfInBounds_toArray, List.set_cons_zero, List.set_cons_succ]
        refine wpG_take (i := 3) (v := ?_) rfl (by kernel_rfl) rfl (by kernel_rfl) (by kernel_rfl) (fun _ _ _ h => h) (by rfl) ?_ (by simp [asksOf]; exact f3) ?_
        rotate_left
        · intro w hw; simp [asksOf] at hw; go_simp; rfl
        simp only [Act.put, List.getElem_toArray, List.getElem_cons_zero, List.getElem_cons_succ, List.setIfInBounds_toArray, List.set_cons_zero, List.set_cons_succ]
        refine wpG_loud (i := 4) rfl rfl rfl (by kernel_rfl) (fun K hK => ?_)
        go_simp
        refine (eval1_any _ _ _ _ B0 x _ hx0 hx1 f0 hsl.out).mono ?_
        rintro e w' ⟨rfl, rfl⟩
        rw [hv0]
        refine hK _ _ ?_ ?_
        · intro q hq hwt; simp only [List.mem_cons, List.not_mem_nil, or_false] at hq; rcases hq with rfl | rfl | rfl
          · exact f0
          · exact Bool.noConfusion (hwt.symm.trans (show _ = true from by kernel_rfl))
          · exact f8
        clear hK K
        try simp only [Act.put, List.getElem_toArray, List.getElem_cons_zero, List.getElem_cons_succ, List.setIfInBounds_toArray, List.set_cons_zero, List.set_cons_succ]
        refine wpG_take (i := 5) (v := ?_) rfl (by kernel_rfl) rfl (by kernel_rfl) (by kernel_rfl) (fun _ _ _ h => h) (by rfl) ?_ (asks_none rfl _) ?_
        rotate_left
        · intro w _; go_simp; rfl
        simp only [Act.put, List.getElem_toArray, List.getElem_cons_zero, List.getElem_cons_succ, List.setIfInBounds_toArray, List.set_cons_zero, List.set_cons_succ]
        refine wpG_take (i := 6) (v := ?_) rfl (by kernel_rfl) rfl (by kernel_rfl) (by kernel_rfl) (fun _ _ _ h => h) (by rfl) ?_ (asks_none rfl _) ?_
        rotate_left
        · intro w _; go_simp; rfl
        simp only [Act.put, List.getElem_toArray, List.getElem_cons_zero, List.getElem_cons_succ, List.setIfInBounds_toArray, List.set_cons_zero, List.set_cons_succ]
        refine wpG_take (i := 7) (v := ?_) rfl (by kernel_rfl) rfl (by kernel_rfl) (by kernel_rfl) (fun _ _ _ h => h) (by rfl) ?_ (asks_none rfl _) ?_
        rotate_left
        · intro w _; go_simp; rfl
        simp only [Act.put, List.getElem_toArray, List.getElem_cons_zero, List.getElem_cons_succ, List.setIfInBounds_toArray, List.set_cons_zero, List.set_cons_succ]
        refine wpG_take (i := 8) (v := ?_) rfl (by kernel_rfl) rfl (by kernel_rfl) (by kernel_rfl) (fun _ _ _ h => h) (by rfl) ?_ (by simp [asksOf]; exact f8) ?_
        rotate_left
        · intro w hw; simp [asksOf] at hw; go_simp; rfl
        simp only [Act.put, List.getElem_toArray, List.getElem_cons_zero, List.getElem_cons_succ, List.setIfInBounds_toArray, List.set_cons_zero, List.set_cons_succ]
        refine wpG_loud (i := 9) rfl rfl rfl (by kernel_rfl) (fun K hK => ?_)
        go_simp
        refine (eval1_any _ _ _ _ B0 y _ hy0 hy1 f0 hsl.out).mono ?_
        rintro e w' ⟨rfl, rfl⟩
        refine hK _ _ ?_ ?_
        · intro q hq hwt; simp only [List.mem_cons, List.not_mem_nil, or_false] at hq; rcases hq with rfl | rfl | rfl
          · exact f0
          · exact f3
          · exact Bool.noConfusion (hwt.symm.trans (show _ = true from by kernel_rfl))
        clear hK K
        try simp only [Act.put, List.getElem_toArray, List.getElem_cons_zero, List.getElem_cons_succ, List.setIfInBounds_toArray, List.set_cons_zero, List.set_cons_succ]
        refine wpG_take (i := 10) (v := ?_) rfl (by kernel_rfl) rfl (by kernel_rfl) (by kernel_rfl) (fun _ _ _ h => h) (by rfl) ?_ (asks_none rfl _) ?_
        rotate_left
        · intro w _; go_simp; rfl
        simp only [Act.put, List.getElem_toArray, List.getElem_cons_zero, List.getElem_cons_succ, List.setIfInBounds_toArray, List.set_cons_zero, List.set_cons_succ]
        refine wpG_loud (i := 11) rfl rfl rfl (by kernel_rfl) (fun K hK => ?_)
        go_simp
        have al : ∀ (q : Addr) (u : Value), wd.cell? q = some u → (wd.alloc (.cells #[.bool (litV (valsF g ins k) y)] 4)).cell? q = some u := fun q u h => (World.cell?_alloc_lt wd _ q (World.block_lt_of_cell? wd q h)).trans h
        refine hK _ _ ?_ ?_
        · intro q hq hwt; simp only [List.mem_cons, List.not_mem_nil, or_false] at hq; rcases hq with rfl | rfl | rfl
          · exact al _ _ f0
          · exact al _ _ f3
          · exact al _ _ f8
        clear hK K al
        refine wpG_loud (i := 12) rfl rfl rfl (by kernel_rfl) (fun K hK => ?_)
        refine wp_append_src _ _ _ _ (by rfl) w.heap.size 4 _ 1 1 Try.underlying27 Try.info4 rfl (by decide) _ _ _ (OwnOf.alloc HOwn.out (.cells #[.bool (litV (valsF g ins k) y)] 4)) (by rfl) (some ⟨wd.heap.size, 0, none⟩) 1 1 [.bool (litV (valsF g ins k) y)] (by rfl) rfl (fun _ => ⟨_, rfl, cell_one_new _ _ _⟩) (by simp [Value.oneCell']) ?b1 ?b2 ?b3 ?_
        case b1 => rw [valsF_length]; have := hlk.out; unfold maxLen; omega
        case b2 => rw [valsF_length]; have := hlk.out; omega
        case b3 => simp; have := hBd.size; omega
        intro v3 w3 hown3 hgrow
        obtain ⟨A3, c3, rfl⟩ := own_shape hown3
        have hg2 : wd.grownBy w3 (Value.slice A2 (valsF g ins k).length c2).ownBlock := (World.grownBy_alloc _ _ _).trans hgrow
        have n0 : some V ≠ (Value.slice A2 (valsF g ins k).length c2).ownBlock := fun h => by obtain ⟨cs, h1⟩ := OwnOf.typed HOwn.out V h.symm; rw [hVd] at h1; cases h1
        have n3 : some wr.heap.size ≠ (Value.slice A2 (valsF g ins k).length c2).ownBlock := fun h => by obtain ⟨cs, h1⟩ := OwnOf.typed HOwn.out wr.heap.size h.symm; rw [hXd] at h1; cases h1
        have nb : some w.heap.size ≠ (Value.slice A2 (valsF g ins k).length c2).ownBlock := fun h => by obtain ⟨cs, h1⟩ := OwnOf.typed HOwn.out w.heap.size h.symm; rw [hBoxd] at h1; cases h1
        have hV3 : w3.heap[V]? = some (.cells #[.slice A2 (valsF g ins k).length c2] 27 (0, 0)) := (hg2.block V (lt_of_some hVd) n0).trans hVd
        have g3 : w3.cell? ⟨wr.heap.size, 0, none⟩ = some (.int .i64 x) := hg2.cell f3 n3
        have g8 : w3.cell? ⟨wr.heap.size, 1, none⟩ = some (.int .i64 y) := hg2.cell f8 n3
        have gV : w3.cell? ⟨V, 0, none⟩ = some (.slice A2 (valsF g ins k).length c2) := hg2.cell f0 n0
        have gf : w3.frozen? ⟨V, 0, none⟩ = false := by simp [World.frozen?, hV3]
        have hBox3 := (hg2.block w.heap.size (lt_of_some hBoxd) nb).trans hBoxd
        have hB3 : Below w.heap.size w w3 := hBd.grown hg2 hBd.size (fun j hj => (OwnOf.lt HOwn.out j hj).1)
        have HO3 := Lib.hid hown3
        have HV3 := Lib.hid hV3
        have HBOX3 := Lib.hid hBox3
        have HB3 := Lib.hid hB3
        clear hown3 hgrow hg2 hV3 hBox3 hB3
        refine hK _ _ ?_ ?_
        · intro q hq hwt; simp only [List.mem_cons, List.not_mem_nil, or_false] at hq; rcases hq with rfl | rfl | rfl
          · exact Bool.noConfusion (hwt.symm.trans (show _ = true from by kernel_rfl))
          · exact g3
          · exact g8
        clear hK K
        try simp only [Act.put, List.getElem_toArray, List.getElem_cons_zero, List.getElem_cons_succ, List.setIfInBounds_toArray, List.set_cons_zero, List.set_cons_succ]
        refine wpG_loud (i := 13) rfl rfl rfl (by kernel_rfl) (fun K hK => ?_)
        go_simp
        refine hK _ _ ?_ ?_
        · intro q hq hwt; simp only [List.mem_cons, List.not_mem_nil, or_false] at hq; rcases hq with rfl | rfl | rfl
          · exact Bool.noConfusion (hwt.symm.trans (show _ = true from by kernel_rfl))
          · exact Bool.noConfusion (hwt.symm.trans (show _ = true from by kernel_rfl))
          · exact Bool.noConfusion (hwt.symm.trans (show _ = true from by kernel_rfl))
        clear hK K
        refine wpG_done (by kernel_rfl) ?_
        go_wp2_with fail
        go_roundw
        case rel =>
          have e1 : (valsF g ins (k + 1)).length = (valsF g ins k).length + 1 := by rw [valsF_length, valsF_length]; omega
          refine ⟨k + 1, by omega, by go_num, HB3.out.setCell (p := ⟨V, 0, none⟩) (Nat.le_of_lt hVlt) _, (Below.heap_setCell w3 ⟨V, 0, none⟩ _ _ (by simp; omega)).trans HBOX3.out, A3, c3, ?_, ?_⟩
          · rw [e1]; simp [World.setCell, Array.getElem?_modify, HV3.out]
          · refine own_far (p := ⟨V, 0, none⟩) (e := 4) (size := 1) ?_ HV3.out (by decide) _
            rw [e1, valsF_succ g ins k HP.out, hv0, List.map_append]
            exact HO3.out
        case measure => simp [intOf]; omega
      | false =>
        go_wp2_with fail
        refine wp_region_G [4, 11, 12, 13] [(0, fun w' => w'.cell? ⟨V, 0, none⟩ = some (.slice A2 (valsF g ins k).length c2)), (3, fun w' => w'.cell? ⟨wr.heap.size, 0, none⟩ = some (.int .i64 x)), (8, fun w' => w'.cell? ⟨wr.heap.size, 1, none⟩ = some (.int .i64 y))] (by kernel_rfl) ?_
        generalize hwd : ((wr.alloc (.cells #[.int .i64 x, .int .i64 y] 123)).drew) = wd at f0 f3 f8 hVd hXd hBoxd hBd HOwn hsl ⊢
        clear hwd
        refine wpG_take (i := 0) (v := ?_) rfl (by kernel_rfl) rfl (by kernel_rfl) (by kernel_rfl) (fun _ _ _ h => h) (by rfl) ?_ (by simp [asksOf]; exact f0) ?_
        rotate_left
        · intro w hw; simp [asksOf] at hw; go_simp; rfl
        simp only [Act.put, List.getElem_toArray, List.getElem_cons_zero, List.getElem_cons_succ, List.setIfInBounds_toArray, List.set_cons_zero, List.set_cons_succ]
        refine wpG_take (i := 1) (v := ?_) rfl (by kernel_rfl) rfl (by kernel_rfl) (by kernel_rfl) (fun _ _ _ h => h) (by rfl) ?_ (asks_none rfl _) ?_
        rotate_left
        · intro w _; go_simp; rfl
        simp only [Act.put, List.getElem_toArray, List.getElem_cons_zero, List.getElem_cons_succ, List.setIfInBounds_toArray, List.set_cons_zero, List.set_cons_succ]
        refine wpG_take (i := 2) (v := ?_) rfl (by kernel_rfl) rfl (by kernel_rfl) (by kernel_rfl) (fun _ _ _ h => h) (by rfl) ?_ (asks_none rfl _) ?_
        rotate_left
        · intro w _; go_simp; rfl
        simp only [Act.put, List.getElem_toArray, List.getElem_cons_zero, List.getElem_cons_succ, List.setIfInBounds_toArray, List.set_cons_zero, List.set_cons_succ]
        refine wpG_take (i := 3) (v := ?_) rfl (by kernel_rfl) rfl (by kernel_rfl) (by kernel_rfl) (fun _ _ _ h => h) (by rfl) ?_ (by simp [asksOf]; exact f3) ?_
        rotate_left
        · intro w hw; simp [asksOf] at hw; go_simp; rfl
        simp only [Act.put, List.getElem_toArray, List.getElem_cons_zero, List.getElem_cons_succ, List.setIfInBounds_toArray, List.set_cons_zero, List.set_cons_succ]
        refine wpG_loud (i := 4) rfl rfl rfl (by kernel_rfl) (fun K hK => ?_)
        go_simp
        refine (eval1_any _ _ _ _ B0 x _ hx0 hx1 f0 hsl.out).mono ?_
        rintro e w' ⟨rfl, rfl⟩
        rw [hv0]
        refine hK _ _ ?_ ?_
        · intro q hq hwt; simp only [List.mem_cons, List.not_mem_nil, or_false] at hq; rcases hq with rfl | rfl | rfl
          · exact f0
          · exact Bool.noConfusion (hwt.symm.trans (show _ = true from by kernel_rfl))
          · exact f8
        clear hK K
        try simp only [Act.put, List.getElem_toArray, List.getElem_cons_zero, List.getElem_cons_succ, List.setIfInBounds_toArray, List.set_cons_zero, List.set_cons_succ]
        refine wpG_take (i := 5) (v := ?_) rfl (by kernel_rfl) rfl (by kernel_rfl) (by kernel_rfl) (fun _ _ _ h => h) (by rfl) ?_ (asks_none rfl _) ?_
        rotate_left
        · intro w _; go_simp; rfl
        simp only [Act.put, List.getElem_toArray, List.getElem_cons_zero, List.getElem_cons_succ, List.setIfInBounds_toArray, List.set_cons_zero, List.set_cons_succ]
        refine wpG_pass (i := 6) rfl (by kernel_rfl) rfl (by kernel_rfl) (by kernel_rfl) (fun _ _ _ h => h) (by rfl) (asks_none rfl _) ?_
        simp only [Act.put, List.getElem_toArray, List.getElem_cons_zero, List.getElem_cons_succ, List.setIfInBounds_toArray, List.set_cons_zero, List.set_cons_succ]
        refine wpG_pass (i := 7) rfl (by kernel_rfl) rfl (by kernel_rfl) (by kernel_rfl) (fun _ _ _ h => h) (by rfl) (asks_none rfl _) ?_
        simp only [Act.put, List.getElem_toArray, List.getElem_cons_zero, List.getElem_cons_succ, List.setIfInBounds_toArray, List.set_cons_zero, List.set_cons_succ]
        refine wpG_pass (i := 8) rfl (by kernel_rfl) rfl (by kernel_rfl) (by kernel_rfl) (fun _ _ _ h => h) (by rfl) (by simp [asksOf]; exact f8) ?_
        simp only [Act.put, List.getElem_toArray, List.getElem_cons_zero, List.getElem_cons_succ, List.setIfInBounds_toArray, List.set_cons_zero, List.set_cons_succ]
        refine wpG_pass (i := 9) rfl (by kernel_rfl) rfl (by kernel_rfl) (by kernel_rfl) (fun _ _ _ h => h) (by rfl) (asks_none rfl _) ?_
        simp only [Act.put, List.getElem_toArray, List.getElem_cons_zero, List.getElem_cons_succ, List.setIfInBounds_toArray, List.set_cons_zero, List.set_cons_succ]
        refine wpG_take (i := 10) (v := ?_) rfl (by kernel_rfl) rfl (by kernel_rfl) (by kernel_rfl) (fun _ _ _ h => h) (by rfl) ?_ (asks_none rfl _) ?_
        rotate_left
        · intro w _; go_simp; rfl
        simp only [Act.put, List.getElem_toArray, List.getElem_cons_zero, List.getElem_cons_succ, List.setIfInBounds_toArray, List.set_cons_zero, List.set_cons_succ]
        refine wpG_loud (i := 11) rfl rfl rfl (by kernel_rfl) (fun K hK => ?_)
        go_simp
        have al : ∀ (q : Addr) (u : Value), wd.cell? q = some u → (wd.alloc (.cells #[.bool (false)] 4)).cell? q = some u := fun q u h => (World.cell?_alloc_lt wd _ q (World.block_lt_of_cell? wd q h)).trans h
        refine hK _ _ ?_ ?_
        · intro q hq hwt; simp only [List.mem_cons, List.not_mem_nil, or_false] at hq; rcases hq with rfl | rfl | rfl
          · exact al _ _ f0
          · exact al _ _ f3
          · exact al _ _ f8
        clear hK K al
        refine wpG_loud (i := 12) rfl rfl rfl (by kernel_rfl) (fun K hK => ?_)
        refine wp_append_src _ _ _ _ (by rfl) w.heap.size 4 _ 1 1 Try.underlying27 Try.info4 rfl (by decide) _ _ _ (OwnOf.alloc HOwn.out (.cells #[.bool (false)] 4)) (by rfl) (some ⟨wd.heap.size, 0, none⟩) 1 1 [.bool (false)] (by rfl) rfl (fun _ => ⟨_, rfl, cell_one_new _ _ _⟩) (by simp [Value.oneCell']) ?b1 ?b2 ?b3 ?_
        case b1 => rw [valsF_length]; have := hlk.out; unfold maxLen; omega
        case b2 => rw [valsF_length]; have := hlk.out; omega
        case b3 => simp; have := hBd.size; omega
        intro v3 w3 hown3 hgrow
        obtain ⟨A3, c3, rfl⟩ := own_shape hown3
        have hg2 : wd.grownBy w3 (Value.slice A2 (valsF g ins k).length c2).ownBlock := (World.grownBy_alloc _ _ _).trans hgrow
        have n0 : some V ≠ (Value.slice A2 (valsF g ins k).length c2).ownBlock := fun h => by obtain ⟨cs, h1⟩ := OwnOf.typed HOwn.out V h.symm; rw [hVd] at h1; cases h1
        have n3 : some wr.heap.size ≠ (Value.slice A2 (valsF g ins k).length c2).ownBlock := fun h => by obtain ⟨cs, h1⟩ := OwnOf.typed HOwn.out wr.heap.size h.symm; rw [hXd] at h1; cases h1
        have nb : some w.heap.size ≠ (Value.slice A2 (valsF g ins k).length c2).ownBlock := fun h => by obtain ⟨cs, h1⟩ := OwnOf.typed HOwn.out w.heap.size h.symm; rw [hBoxd] at h1; cases h1
        have hV3 : w3.heap[V]? = some (.cells #[.slice A2 (valsF g ins k).length c2] 27 (0, 0)) := (hg2.block V (lt_of_some hVd) n0).trans hVd
        have g3 : w3.cell? ⟨wr.heap.size, 0, none⟩ = some (.int .i64 x) := hg2.cell f3 n3
        have g8 : w3.cell? ⟨wr.heap.size, 1, none⟩ = some (.int .i64 y) := hg2.cell f8 n3
        have gV : w3.cell? ⟨V, 0, none⟩ = some (.slice A2 (valsF g ins k).length c2) := hg2.cell f0 n0
        have gf : w3.frozen? ⟨V, 0, none⟩ = false := by simp [World.frozen?, hV3]
        have hBox3 := (hg2.block w.heap.size (lt_of_some hBoxd) nb).trans hBoxd
        have hB3 : Below w.heap.size w w3 := hBd.grown hg2 hBd.size (fun j hj => (OwnOf.lt HOwn.out j hj).1)
        have HO3 := Lib.hid hown3
        have HV3 := Lib.hid hV3
        have HBOX3 := Lib.hid hBox3
        have HB3 := Lib.hid hB3
        clear hown3 hgrow hg2 hV3 hBox3 hB3
        refine hK _ _ ?_ ?_
        · intro q hq hwt; simp only [List.mem_cons, List.not_mem_nil, or_false] at hq; rcases hq with rfl | rfl | rfl
          · exact Bool.noConfusion (hwt.symm.trans (show _ = true from by kernel_rfl))
          · exact g3
          · exact g8
        clear hK K
        try simp only [Act.put, List.getElem_toArray, List.getElem_cons_zero, List.getElem_cons_succ, List.setIfInBounds_toArray, List.set_cons_zero, List.set_cons_succ]
        refine wpG_loud (i := 13) rfl rfl rfl (by kernel_rfl) (fun K hK => ?_)
        go_simp
        refine hK _ _ ?_ ?_
        · intro q hq hwt; simp only [List.mem_cons, List.not_mem_nil, or_false] at hq; rcases hq with rfl | rfl | rfl
          · exact Bool.noConfusion (hwt.symm.trans (show _ = true from by kernel_rfl))
          · exact Bool.noConfusion (hwt.symm.trans (show _ = true from by kernel_rfl))
          · exact Bool.noConfusion (hwt.symm.trans (show _ = true from by kernel_rfl))
        clear hK K
        refine wpG_done (by kernel_rfl) ?_
        go_wp2_with fail
        go_roundw
        case rel =>
          have e1 : (valsF g ins (k + 1)).length = (valsF g ins k).length + 1 := by rw [valsF_length, valsF_length]; omega
          refine ⟨k + 1, by omega, by go_num, HB3.out.setCell (p := ⟨V, 0, none⟩) (Nat.le_of_lt hVlt) _, (Below.heap_setCell w3 ⟨V, 0, none⟩ _ _ (by simp; omega)).trans HBOX3.out, A3, c3, ?_, ?_⟩
          · rw [e1]; simp [World.setCell, Array.getElem?_modify, HV3.out]
          · refine own_far (p := ⟨V, 0, none⟩) (e := 4) (size := 1) ?_ HV3.out (by decide) _
            rw [e1, valsF_succ g ins k HP.out, hv0, List.map_append]
            exact HO3.out
        case measure => simp [intOf]; omega
    · obtain rfl : k = g.gates.length := by omega
      have hvl : (valuesF g ins).length = 1 + ins.length + g.gates.length := valsF_length g ins _
      have hll := HL.out
      have hnd : (g.nodes : Int) = (valuesF g ins).length := by unfold GS.nodes; omega
      have HND := Lib.hid hnd
      have hvb : (valuesF g ins).length ≤ 200000 := by have := hw.size; unfold GS.nodes at this; omega
      clear hvl hll hnd
      have hsl : SlB wr B0 A2 c2 (valuesF g ins) := by
        obtain ⟨A', c', e1, h⟩ := hown.sl B0
        injection e1 with e1 _ e2
        subst e1 e2
        exact h
      have hVw' : wr.heap[V]? = some (.cells #[.slice A2 (valuesF g ins).length c2] 27 (0, 0)) := hVw
      have HVW := Lib.hid hVw'
      have HSL := Lib.hid hsl
      have HBW := Lib.hid hbw
      have hltV : V < wr.heap.size := lt_of_some hVw
      clear hVw hVw' hsl hown hbox hbw
      go_wp2_with fail
      obtain ⟨wo, rfl⟩ : ∃ wo : World, wo = wr := ⟨_, rfl⟩
      go_loopw [12, 14, 53] (fun v _ i wr => ∃ k : Nat, k ≤ xs.length ∧ i = .int .i64 k ∧ OwnB wr wo.heap.size v ((xs.take k).map (litV (valuesF g ins))) ∧ Below wo.heap.size wo wr) (fun _ _ i _ => xs.length - (intOf i).toNat)
      case atStart => exact ⟨0, Nat.zero_le _, rfl, OwnOf.nil _ _, Below.refl _ _⟩
      case round =>
        obtain ⟨k, hk, rfl, hown, hb⟩ := hrel
        by_cases hlt : k < xs.length
        · obtain ⟨b, o, x, rfl, hxk, hcx⟩ := (HS.out.below (HBW.out.trans (hb.mono HBW.out.size))).at_ hlt
          obtain ⟨hx0, hx1⟩ := hx x (List.mem_of_getElem? hxk)
          have hnd := HND.out
          have cV : wr.cell? ⟨V, 0, none⟩ = some (.slice A2 (valuesF g ins).length c2) := by
            rw [hb.cell (p := ⟨V, 0, none⟩) hltV]; simp [World.cell?, HVW.out]
          have hx2 : x < 2 * ((valuesF g ins).length : Int) := by omega
          have hsl := Lib.hid (HSL.out.below hb)
          have hnx : (xs.take (k + 1)).map (litV (valuesF g ins)) = (xs.take k).map (litV (valuesF g ins)) ++ [litV (valuesF g ins) x] := by
            rw [List.take_add_one, hxk]; simp
          have HNX := Lib.hid hnx
          have hlk : ((xs.take k).map (litV (valuesF g ins))).length ≤ 1000000 := by simp; omega
          clear hnx hxk hnd hx1
          go_wp2_with (first
            | (at_builtin; refine app1 Value.bool oneBool 27 4 1 Try.underlying27 Try.info4 rfl rfl _ _ rfl _ _ _ _ hown rfl rfl ?_ ?_ ?_ ?_)
            | (go_at_call 111; refine (eval1_any _ _ _ _ B0 x _ hx0 hx2 cV hsl.out).mono ?_; rintro e w' ⟨rfl, rfl⟩))
          · omega
          · omega
          · exact hb.size
          intro v' w4 hown4 hgr4
          have hb4 := hb.grown hgr4 hb.size (fun j hj => (hown.lt j hj).1)
          clear hown hb hgr4 cV hlk hsl
          go_wp2
          go_roundw
          case rel => exact ⟨k + 1, by omega, by go_num, by rw [HNX.out, List.map_take]; exact hown4, hb4⟩
          case measure => simp [intOf]; omega
        · obtain rfl : k = xs.length := by omega
          go_wp2
          go_ret2
          refine ⟨_, rfl, ?_, HBW.out.trans (hb.mono HBW.out.size)⟩
          have := hown.mono HBW.out.size
          rwa [List.take_length] at this
end Go.Proofs.Ytgmcajojigedaaa
