/- The walk of the law BlastWords. -/
import Derived.Test.YtgmcajojigedaaaHa
namespace Go.Proofs.Ytgmcajojigedaaa
open Go.RowKit

def litsF (l : List Int) : List Int := l.map fun n => 2 + n % 16 * 2
theorem litsF_length (l : List Int) : (litsF l).length = l.length := by simp [litsF]
theorem literals_any (xs : List Int) (A : Option Addr) (c B0 : Nat) (w : World) (hl : xs.length ≤ 12) (hs : SlI w B0 A c xs) :
    Calls Try.prog 37 #[.slice A xs.length c] w (RetOwnI w (litsF xs)) := by
  have HS := Lib.hid hs
  clear hs
  go_enter Try.func37, Try.ntmps37
  go_wp2
  go_loopw [3, 5, 8] (fun v _ i wr => ∃ k : Nat, k ≤ xs.length ∧ i = .int .i64 k ∧ OwnI wr w.heap.size v (litsF (xs.take k)) ∧ Below w.heap.size w wr) (fun _ _ i _ => xs.length - (intOf i).toNat)
  case atStart => exact ⟨0, Nat.zero_le _, rfl, OwnOf.nil _ _, Below.refl _ _⟩
  case round =>
    obtain ⟨k, hk, rfl, hown, hb⟩ := hrel
    by_cases hlt : k < xs.length
    · obtain ⟨b, o, x, rfl, hx, hc⟩ := (HS.out.below hb).at_ hlt
      obtain ⟨m, hb1, hm0, hm1, hm⟩ : ∃ m, bits .and .i64 x 15 = m ∧ 0 ≤ m ∧ m < 16 ∧ Hid (m = x % 16) := ⟨x % 16, bits_mask x 4 (by omega), by omega, by omega, rfl⟩
      have hlen : (litsF (xs.take k)).length ≤ 12 := by rw [litsF_length, List.length_take]; omega
      have hnext : Hid (litsF (xs.take k) ++ [2 + m * 2] = litsF (xs.take (k + 1))) := by
        show _ = _; rw [List.take_add_one, hx, hm.out]; simp [litsF]
      clear hx
      go_wp2_with (at_builtin; go_must (refine app1 (Value.int .i64) oneInt 24 3 8 Try.underlying24 Try.info3 rfl rfl _ _ rfl _ _ _ _ hown rfl rfl ?_ ?_ ?_ ?_))
      · omega
      · omega
      · exact hb.size
      intro v' w1 hown1 hgr1
      rw [hnext.out] at hown1
      have hb2 := hb.grown hgr1 hb.size (fun j hj => (hown.lt j hj).1)
      clear hown hb hgr1 hb1 hlen hc
      go_wp2
      go_roundw
      case rel => exact ⟨k + 1, by omega, by go_num, hown1, hb2⟩
      case measure => simp [intOf]; omega
    · obtain rfl : k = xs.length := by omega
      rw [List.take_length] at hown
      go_wp2
      go_ret
      exact ⟨_, rfl, hown, hb⟩
theorem litsF_lit (l : List Int) {g : GS} (h : g.inputs = 24) : areLit g (litsF l) := by
  intro x hx
  simp only [litsF, List.mem_map] at hx
  obtain ⟨n, _, rfl⟩ := hx
  unfold isLit GS.nodes
  omega
end Go.Proofs.Ytgmcajojigedaaa
