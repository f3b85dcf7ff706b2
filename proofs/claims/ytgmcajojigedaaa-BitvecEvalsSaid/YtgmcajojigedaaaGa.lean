/- A builder of gates in memory, and the walks of the small functions on it. -/
import Derived.Test.YtgmcajojigedaaaBase
set_option linter.unusedSimpArgs false
set_option linter.unusedVariables false
namespace Go.Proofs.Ytgmcajojigedaaa
open Go.RowKit

/-- A builder's content: the number of inputs, and the gates. -/
structure GS where
  inputs : Nat
  gates : List (Int × Int)
def GS.nodes (g : GS) : Nat := 1 + g.inputs + g.gates.length

def gkey (p : Int × Int) : Value := .agg #[.int .i64 p.1, .int .i64 p.2]
def gents (g : GS) : List MapEntry := g.gates.mapIdx fun i p => { key := gkey p, val := .int .i64 ((1 + g.inputs + i : Nat) : Int), born := i }
def gcells (l : List (Int × Int)) : List Value := l.flatMap fun p => [.int .i64 p.1, .int .i64 p.2]

structure Bd (B0 : Nat) (w : World) (p m : Nat) (A : Option Addr) (c : Nat) (g : GS) : Prop where
  blk : w.heap[p]? = some (.cells #[.int .i64 g.inputs, .slice A g.gates.length c, .map (some m), .int .i64 0] 116 (0, 0))
  hp : B0 ≤ p
  hm : B0 ≤ m
  own : w.ownsRow B0 123 2 (.slice A g.gates.length c) g.gates.length (gcells g.gates)
  map : w.heap[m]? = some (.map (gents g).toArray g.gates.length)

theorem not_any (x : Int) (w : World) (h0 : 0 ≤ x) (h1 : x < 9223372036854775807) : Calls Try.prog 108 #[.int .i64 x] w fun e w' => e = .returned (.int .i64 (notL x)) ∧ w = w' := by
  have hb := bits_xor_one x h0 h1
  go_enter Try.func108, Try.ntmps108
  go_wp2
  go_ret
  exact ⟨rfl, rfl⟩

def NewRet (w : World) (n : Nat) (e : Ending) (w' : World) : Prop :=
  ∃ p m, e = .returned (.tuple #[.pointer (some ⟨p, 0, none⟩), .int .i64 0]) ∧ Bd w.heap.size w' p m none 0 ⟨n, []⟩ ∧ Below w.heap.size w w'
theorem new_any (n : Nat) (w : World) (hn : n ≤ 1024) : Calls Try.prog 36 #[.int .i64 n] w (NewRet w n) := by
  have hd : decide ((n : Int) < 0) = false := decide_eq_false (by omega)
  have hd2 : decide ((1024 : Int) < n) = false := decide_eq_false (by omega)
  have hmm := @run_makeMap Try.prog
  go_enter Try.func36, Try.ntmps36
  go_wp2
  go_ret2
  refine ⟨w.heap.size + 1, w.heap.size, rfl, ⟨?_, by omega, Nat.le_refl _, World.ownsRow_nil _ _ _ _, ?_⟩, ((Below.refl _ _).alloc (Nat.le_refl _) _).alloc (by simp) _⟩
  · have := heap_alloc_new (w.alloc (.map #[] 0)) (.cells #[.int .i64 n, .slice none 0 0, .map (some w.heap.size), .int .i64 0] 116)
    simpa using this
  · exact (Below.heap_alloc _ _ _ (by simp)).trans (by have := (MapKept.heap_alloc w (.map #[] 0)).1; simpa [gents] using this)

theorem nodes_any (n : Int) (A : Option Addr) (k c : Nat) (w : World) (h0 : 0 ≤ n) (h1 : n ≤ 1000000) (h2 : k ≤ 1000000) :
    Calls Try.prog 101 #[.agg #[.int .i64 n, .slice A k c]] w fun e w' => e = .returned (.int .i64 (1 + n + k)) ∧ Below w.heap.size w w' := by
  go_enter Try.func101, Try.ntmps101
  go_wp2
  go_ret
  exact ⟨rfl, (Below.refl _ _).alloc (Nat.le_refl _) _⟩

section
variable {B0 : Nat} {w w' : World} {p m : Nat} {A : Option Addr} {c : Nat} {g : GS}
theorem Bd.cell0 (h : Bd B0 w p m A c g) : w.cell? ⟨p, 0, none⟩ = some (.int .i64 g.inputs) := by have := h.blk; simp [World.cell?, this]
theorem Bd.cell1 (h : Bd B0 w p m A c g) : w.cell? ⟨p, 1, none⟩ = some (.slice A g.gates.length c) := by have := h.blk; simp [World.cell?, this]
theorem Bd.cell2 (h : Bd B0 w p m A c g) : w.cell? ⟨p, 2, none⟩ = some (.map (some m)) := by have := h.blk; simp [World.cell?, this]
theorem Bd.cell3 (h : Bd B0 w p m A c g) : w.cell? ⟨p, 3, none⟩ = some (.int .i64 0) := by have := h.blk; simp [World.cell?, this]
theorem Bd.frz (h : Bd B0 w p m A c g) (o : Nat) : w.frozen? ⟨p, o, none⟩ = false := by have := h.blk; simp [World.frozen?, this]
theorem Bd.below (h : Bd B0 w p m A c g) (hb : Below w.heap.size w w') : Bd B0 w' p m A c g :=
  ⟨(hb.block p (lt_of_some h.blk)).trans h.blk, h.hp, h.hm, World.ownsRow.kept h.own (grown_of_below hb) (by cases (Value.slice A g.gates.length c).ownBlock <;> simp), (hb.block m (lt_of_some h.map)).trans h.map⟩
theorem Bd.fr {ts ms : List Nat} (h : Bd B0 w p m A c g) (hf : Fr B0 ts ms w w') (h1 : 116 ∉ ts) (h2 : 123 ∉ ts) (h3 : m ∉ ms) : Bd B0 w' p m A c g :=
  ⟨hf.block p _ h.blk (fun ⟨_, h⟩ => h1 h), h.hp, h.hm, by
    refine ⟨h.own.1, h.own.2.imp id (fun ⟨g', cap, cur, e1, e2, e3, rest⟩ => ⟨g', cap, cur, e1, e2, hf.block g' _ e3 (fun ⟨_, h⟩ => h2 h), rest⟩)⟩, hf.block m _ h.map (fun ⟨_, h⟩ => h3 h)⟩
theorem Bd.drewN (h : Bd B0 w p m A c g) (n : Nat) : Bd B0 (w.drewN n) p m A c g := ⟨h.blk, h.hp, h.hm, h.own, h.map⟩
end

theorem len_any (B0 p m : Nat) (A : Option Addr) (c : Nat) (g : GS) (w : World) (hb : Bd B0 w p m A c g) (hn : g.nodes ≤ 65536) :
    Calls Try.prog 38 #[.pointer (some ⟨p, 0, none⟩)] w fun e w' => e = .returned (.int .i64 g.nodes) ∧ Below w.heap.size w w' := by
  have c0 := hb.cell0
  have c1 := hb.cell1
  have hi : g.inputs ≤ 65536 := by unfold GS.nodes at hn; omega
  have hl : g.gates.length ≤ 65536 := by unfold GS.nodes at hn; omega
  have e1 : Hid ((1 : Int) + g.inputs + g.gates.length = g.nodes) := by show _ = _; unfold GS.nodes; omega
  clear hb hn
  go_enter Try.func38, Try.ntmps38
  go_wp2_with (go_at_call 101; refine (nodes_any _ _ _ _ _ (by omega) (by omega) (by omega)).mono ?_; rintro e w' ⟨rfl, hb⟩; rw [e1.out])
  go_ret
  exact ⟨rfl, hb⟩

theorem err_any (B0 p m : Nat) (A : Option Addr) (c : Nat) (g : GS) (w : World) (hb : Bd B0 w p m A c g) :
    Calls Try.prog 47 #[.pointer (some ⟨p, 0, none⟩)] w fun e w' => e = .returned (.int .i64 0) ∧ w = w' := by
  have c3 := hb.cell3
  clear hb
  go_enter Try.func47, Try.ntmps47
  go_wp2
  go_ret
  exact ⟨rfl, rfl⟩
theorem settle_any (B0 p m : Nat) (A : Option Addr) (c : Nat) (g : GS) (x : Int) (w : World) (hb : Bd B0 w p m A c g) :
    Calls Try.prog 140 #[.pointer (some ⟨p, 0, none⟩), .int .i64 x] w fun e w' => e = .returned (.int .i64 x) ∧ w = w' := by
  have c3 := hb.cell3
  clear hb
  go_enter Try.func140, Try.ntmps140
  go_wp2
  go_ret
  exact ⟨rfl, rfl⟩

/-- A literal of a builder's circuit. -/
def isLit (g : GS) (x : Int) : Prop := 0 ≤ x ∧ x < 2 * (g.nodes : Int)

set_option maxHeartbeats 1000000 in
theorem literal_any (B0 p m : Nat) (A : Option Addr) (c : Nat) (g : GS) (xs : List Int) (A' : Option Addr) (c' : Nat) (w : World) (hb : Bd B0 w p m A c g) (hn : g.nodes ≤ 65536) (hs : SlI w B0 A' c' xs) (hx : ∀ x ∈ xs, isLit g x) :
    Calls Try.prog 141 #[.pointer (some ⟨p, 0, none⟩), .slice A' xs.length c'] w fun e w' => e = .returned (.bool true) ∧ Below w.heap.size w w' := by
  have hi : g.inputs ≤ 65536 := by unfold GS.nodes at hn; omega
  have hl : g.gates.length ≤ 65536 := by unfold GS.nodes at hn; omega
  have e1 : Hid ((1 : Int) + g.inputs + g.gates.length = g.nodes) := by show _ = _; unfold GS.nodes; omega
  have hbig := hs.big
  go_enter Try.func141, Try.ntmps141
  go_wp2
  go_loopw [6, 9] (fun _ i wr => ∃ k : Nat, k ≤ xs.length ∧ i = .int .i64 k ∧ Below w.heap.size w wr) (fun _ i _ => xs.length - (intOf i).toNat)
  case atStart => exact ⟨0, Nat.zero_le _, rfl, Below.refl _ _⟩
  case round =>
    obtain ⟨k, hk, rfl, hbw⟩ := hrel
    by_cases hlt : k < xs.length
    · obtain ⟨b, o, x, rfl, hxk, hc⟩ := (hs.below hbw).at_ hlt
      obtain ⟨hx0, hx1⟩ := hx x (List.mem_of_getElem? hxk)
      have hb' := hb.below hbw
      have c0 := hb'.cell0
      have c1 := hb'.cell1
      have hd : decide (x < 0) = false := decide_eq_false (by omega)
      clear hs hx hxk hb hb'
      go_wp2_with (go_at_call 101; refine (nodes_any _ _ _ _ _ (by omega) (by omega) (by omega)).mono ?_; rintro e w' ⟨rfl, hb1⟩; rw [e1.out])
      have hb2 := hbw.trans (hb1.mono hbw.size)
      go_roundw
      case rel => exact ⟨k + 1, by omega, by go_num, hb2⟩
      case measure => simp [intOf]; omega
    · go_wp2
      go_ret
      exact ⟨rfl, hbw⟩
end Go.Proofs.Ytgmcajojigedaaa
