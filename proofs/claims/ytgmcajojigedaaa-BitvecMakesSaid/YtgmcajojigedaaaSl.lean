/- Slices of numbers of the call's own, in the words of the library's contracts on sorting. No program. -/
import Derived.Test.YtgmcajojigedaaaBase
import Derived.Sort.Row
set_option linter.unusedSimpArgs false
set_option linter.unusedVariables false
namespace Go.Proofs.Ytgmcajojigedaaa
open Go.RowKit Go.Sort

theorem own_holds {w : World} {B g n cap : Nat} {xs : List Int} (h : OwnI w B (.slice (some ⟨g, 0, none⟩) n cap) xs) (e : xs.length = n) : Holds (Value.int .i64) w g 0 xs.toArray := by
  rcases h.2 with ⟨h0, _⟩ | ⟨g', cap', cur, e1, h1, h2, h3, h4, h5, h6⟩
  · cases h0
  · injection e1 with e1 _ _
    injection e1 with e1
    injection e1 with e1 _ _
    subst e1
    intro j hj
    have hj' : j < xs.length := by simpa using hj
    refine ⟨?_, by simp [World.frozen?, h2]⟩
    have := h.cells (g := g) rfl j (.int .i64 xs[j]) (by simp [hj'])
    rw [Addr.add_lit] at this
    rw [this]
    simp [hj']
theorem putRow_heap (w : World) (q g : Nat) (d : Array Int) : (putRow (Value.int .i64) (Go.Sort.ahead w q) g 0 d).heap = w.heap.modify g (onCells (putCells (Value.int .i64) 0 d)) := rfl
theorem own_put {w : World} {B g n cap : Nat} {xs ys : List Int} (q : Nat) (h : OwnI w B (.slice (some ⟨g, 0, none⟩) n cap) xs) (e : xs.length = n) (e2 : ys.length = n) :
    OwnI (putRow (Value.int .i64) (Go.Sort.ahead w q) g 0 ys.toArray) B (.slice (some ⟨g, 0, none⟩) n cap) ys ∧ w.grownBy (putRow (Value.int .i64) (Go.Sort.ahead w q) g 0 ys.toArray) (some g) := by
  rcases h.2 with ⟨h0, _⟩ | ⟨g', cap', cur, e1, h1, h2, h3, h4, h5, h6⟩
  · cases h0
  · injection e1 with e1 e3 e4
    injection e1 with e1
    injection e1 with e1 _ _
    subst e1 e4
    refine ⟨⟨by simp, .inr ⟨g, cap, putCells (Value.int .i64) 0 ys.toArray cur, by rw [e2], h1, ?_, by omega, h4, by simp [putCells, h5], ?_⟩⟩, ⟨rfl, rfl, rfl, by rw [putRow_heap]; simp, fun k hk hne => ?_⟩⟩
    · rw [putRow_heap, Array.getElem?_modify, if_pos rfl, h2]; rfl
    · apply List.ext_getElem?
      intro k
      rw [List.getElem?_take]
      by_cases hk : k < ys.length
      · rw [if_pos (by omega)]
        have hc : k < cur.size := by omega
        simp [putCells, hk, hc]
      · rw [if_neg (by omega), List.getElem?_eq_none (by simp; omega)]
    · rw [putRow_heap, Array.getElem?_modify, if_neg (fun h => hne (by rw [h]))]
end Go.Proofs.Ytgmcajojigedaaa
