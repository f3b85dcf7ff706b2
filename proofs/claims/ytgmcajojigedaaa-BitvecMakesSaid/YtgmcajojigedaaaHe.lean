/- The words, the bits and the operators' steps of BlastOperators. -/
import Derived.Test.YtgmcajojigedaaaHd
set_option linter.unusedSimpArgs false
set_option linter.unusedVariables false
namespace Go.Proofs.Ytgmcajojigedaaa
open Go.RowKit

theorem ops_fits {q : Nat} (h2 : 2 ≤ q) (h8 : q ≤ 8) : fitsP (q : Int) [0, 0, 1] := ⟨by omega, by omega, by simp, by intro s hs; simp at hs; rcases hs with rfl | rfl <;> simp [isSort]⟩
theorem words_ops (q N : Nat) (h2 : 2 ≤ q) (h8 : q ≤ 8) (hN : Hid (N = 2 * q + 1)) (w : World) (B0 : Nat) (A : Option Addr) (hB : B0 ≤ w.heap.size) (hs : SlI w B0 A 3 [0, 0, 1]) :
    Calls Try.prog 29 #[.int .i64 q, .slice A 3 3] w fun e w' => ∃ A c, e = .returned (.tuple #[.slice A 3 c, .int .i64 N, .int .i64 0]) ∧ SlW w' B0 A c [wordN 0 q, wordN q q, [opsL q]] ∧ Below w.heap.size w w' := by
  refine (words_yes (q : Int) [0, 0, 1] A 3 B0 w hB (ops_fits h2 h8) hs).mono ?_
  rintro e w' ⟨A', c', rfl, h1, h2⟩
  have e1 : wordsF (q : Int) [0, 0, 1] ([0, 0, 1] : List Int).length = [wordN 0 q, wordN q q, [opsL q]] := by
    simp [wordsF, List.range_succ, posN, szN, sizeF, wordN, opsL]; omega
  have e2 : posN (q : Int) [0, 0, 1] ([0, 0, 1] : List Int).length = N := by rw [hN.out]; simp [posN, szN, sizeF]; omega
  rw [e1] at h1 ⊢
  rw [e2]
  exact ⟨A', c', rfl, h1, h2⟩
theorem b01_bits (c : Bool) : bitsOf (b01 c) 1 = [c] := by cases c <;> rfl
theorem bits_ops (q N : Nat) (h2 : 2 ≤ q) (h8 : q ≤ 8) (hN : Hid (N = 2 * q + 1)) (x y cv : Int) (c : Bool) (hx : wrapW q x = x) (hy : wrapW q y = y) (hc : cv = b01 c) (w : World) (B0 : Nat) (A A' : Option Addr) (k : Nat) (hB : B0 ≤ w.heap.size) (hs : SlI w B0 A k [0, 0, 1]) (hs' : SlI w B0 A' 3 [x, y, cv]) :
    Calls Try.prog 26 #[.int .i64 q, .slice A 3 k, .slice A' 3 3] w fun e w' => ∃ A c', e = .returned (.tuple #[.slice A N c', .int .i64 0]) ∧ SlB w' B0 A c' (opsIns q x y c) ∧ Below w.heap.size w w' := by
  refine (bits_yes (q : Int) [0, 0, 1] [x, y, cv] A A' k 3 B0 w hB (ops_fits h2 h8) rfl hs hs').mono ?_
  rintro e w' (⟨_, v, rfl, h1, h2⟩ | ⟨h, _⟩)
  · have e1 : bitsF (q : Int) [0, 0, 1] [x, y, cv] ([0, 0, 1] : List Int).length = opsIns q x y c := by
      simp [bitsF, List.range_succ, szN, sizeF, opsIns, hc, b01_bits]
    rw [e1] at h1
    obtain ⟨A, c', rfl, hs⟩ := h1.sl B0
    exact ⟨A, c', by rw [opsIns_length, hN.out], hs, h2⟩
  · refine absurd (fun j a b hj ha hb => ?_) h
    match j with
    | 0 => simp at ha hb; subst ha hb; exact .inl ⟨rfl, hx⟩
    | 1 => simp at ha hb; subst ha hb; exact .inl ⟨rfl, hy⟩
    | 2 => simp at ha hb; subst ha hb; exact .inr ⟨rfl, by rw [hc]; cases c <;> simp [b01]⟩
    | j + 3 => simp at hj; omega
theorem three_new (w : World) (B0 : Nat) (a b c : Int) : SlI (w.alloc (.cells #[.int .i64 a, .int .i64 b, .int .i64 c] 3)) B0 (some ⟨w.heap.size, 0, none⟩) 3 [a, b, c] :=
  sl_new (Value.int .i64) 3 w B0 [a, b, c] (by simp)
theorem two_newI (w : World) (B0 : Nat) (a b : Int) : SlI (w.alloc (.cells #[.int .i64 a, .int .i64 b] 3)) B0 (some ⟨w.heap.size, 0, none⟩) 2 [a, b] :=
  sl_new (Value.int .i64) 3 w B0 [a, b] (by simp)

/-- The cells of the law's words. -/
def CF (b o : Nat) (A0 A1 : Option Addr) (c0 c1 c2 q b3 o3 : Nat) (L : Int) (w : World) : Prop :=
  w.cell? ⟨b, o, none⟩ = some (.slice A0 q c0) ∧ w.cell? ⟨b, o + 1, none⟩ = some (.slice A1 q c1) ∧ w.cell? ⟨b, o + 2, none⟩ = some (.slice (some ⟨b3, o3, none⟩) 1 c2) ∧ w.cell? ⟨b3, o3, none⟩ = some (.int .i64 L)
theorem cf_open {w : World} {B0 : Nat} {A : Option Addr} {c q : Nat} {L : Int} (h : SlW w B0 A c [wordN 0 q, wordN q q, [L]]) :
    ∃ b o A0 A1 c0 c1 c2 b3 o3, A = some ⟨b, o, none⟩ ∧ SlI w B0 A0 c0 (wordN 0 q) ∧ SlI w B0 A1 c1 (wordN q q) ∧ ∀ (ts ms : List Nat) (w' : World), Fr B0 ts ms w w' → 24 ∉ ts → 3 ∉ ts → CF b o A0 A1 c0 c1 c2 q b3 o3 L w' := by
  obtain ⟨b, o, x, A0, c0, hA, hx, hc0, hs0⟩ := h.at_ (k := 0) (by simp)
  obtain ⟨b', o', x', A1, c1, hA', hx', hc1, hs1⟩ := h.at_ (k := 1) (by simp)
  obtain ⟨b'', o'', x'', A2, c2, hA'', hx'', hc2, hs2⟩ := h.at_ (k := 2) (by simp)
  subst hA
  cases hA'
  cases hA''
  simp at hx hx' hx''
  subst hx hx' hx''
  rw [wordN_length] at hc0 hc1
  obtain ⟨b3, o3, y, rfl, hy, hc3⟩ := hs2.at_ (k := 0) (by simp)
  simp at hy
  subst hy
  refine ⟨b, o, A0, A1, c0, c1, c2, b3, o3, rfl, hs0, hs1, fun ts ms w' hf h24 h3 => ⟨?_, ?_, ?_, ?_⟩⟩
  · exact h.cell_fr hf h24 (k := 0) (by simp) hc0
  · exact h.cell_fr hf h24 (k := 1) (by simp) hc1
  · exact h.cell_fr hf h24 (k := 2) (by simp) hc2
  · exact (hs2.fr hf h3).cell (k := 0) (by simp)
theorem geval_n {g : GS} {A A1 A' : Option Addr} {c c1 c' n1 n2 B0 : Nat} {ins : List Bool} {xs : List Int} {w : World} (e1 : ins.length = n1) (e2 : xs.length = n2) (hB : B0 ≤ w.heap.size) (hw : GWf g) (hc : CirIn w A c g) (hins : SlB w B0 A1 c1 ins) (hlen : ins.length = g.inputs)
    (hs : SlI w B0 A' c' xs) (hx : areLit g xs) (hxl : n2 ≤ 1000000) :
    Calls Try.prog 49 #[.agg #[.int .i64 g.inputs, .slice A g.gates.length c], .slice A1 n1 c1, .slice A' n2 c'] w fun e w' => ∃ A9 c9, e = .returned (.tuple #[.slice A9 n2 c9, .int .i64 0]) ∧ SlB w' B0 A9 c9 (evs g ins xs) ∧ Below w.heap.size w w' := by
  subst e1 e2
  refine (geval_any g A c ins A1 c1 xs A' c' B0 w hB hw hc hins hlen hs hx hxl).mono ?_
  rintro e w' ⟨v, rfl, ho, hb⟩
  obtain ⟨A9, c9, rfl, hs9⟩ := ho.sl B0
  exact ⟨A9, c9, by rw [List.length_map], hs9, hb⟩
theorem value_n {bs : List Bool} {A : Option Addr} {c B0 n : Nat} {v : Int} {w : World} (e : bs.length = n) (hv : valueF 0 bs = v) (hs : SlB w B0 A c bs) :
    Calls Try.prog 27 #[.int .i64 0, .slice A n c] w fun e w' => e = .returned (.int .i64 v) ∧ w = w' := by
  subst e hv
  exact value_any 0 bs A c B0 w hs
theorem circuit_env {B0 p m k : Nat} {g0 g : GS} {w : World} (E : Env B0 p m g0 k w g) : Calls Try.prog 50 #[.pointer (some ⟨p, 0, none⟩)] w fun e w' => ∃ A c, e = .returned (.agg #[.int .i64 g.inputs, .slice A g.gates.length c]) ∧ CirIn w' A c g ∧ Below w.heap.size w w' := by
  obtain ⟨Ab, cb, hbd⟩ := E.bd
  refine (circuit_any B0 p m Ab cb g w hbd E.wf.size).mono ?_
  rintro e w' ⟨A, c, rfl, ho, hb⟩
  exact ⟨A, c, rfl, CirIn.of_own ho, hb⟩
/-- The rows of the law's table. -/
def ZF (q : Nat) (ins : List Bool) (g : GS) (B0 bz : Nat) (w : World) : Prop :=
  ∀ k : Nat, k < 7 → ∃ A c ws v, w.cell? ⟨bz, k * 2, none⟩ = some (.slice A q c) ∧ w.cell? ⟨bz, k * 2 + 1, none⟩ = some (.int .i64 v) ∧ Okv q ins g ws v ∧ SlI w B0 A c ws
theorem ZF.below {q : Nat} {ins : List Bool} {g : GS} {B0 bz : Nat} {w w' : World} (h : ZF q ins g B0 bz w) (hb : Below w.heap.size w w') : ZF q ins g B0 bz w' := fun k hk =>
  let ⟨A, c, ws, v, h1, h2, h3, h4⟩ := h k hk
  ⟨A, c, ws, v, (hb.cell (cell_lt h1)).trans h1, (hb.cell (cell_lt h2)).trans h2, h3, h4.below hb⟩
theorem z_cell (w : World) (cs : Array Value) (t k : Nat) : (w.alloc (.cells cs t)).cell? ⟨w.heap.size, k, none⟩ = cs[k]? := by
  exact cell_of_row _ _ _ _ _ _ (heap_alloc_new w _)
end Go.Proofs.Ytgmcajojigedaaa
