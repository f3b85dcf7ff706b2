/- Words of literals: the walks of words and inverse. Words of literals: sums and choices, what they do to a builder, and their walks. Words of literals: Add, Sub, Neg, Choose. -/
import Derived.Test.YtgmcajojigedaaaGf
import Derived.Test.YtgmcajojigedaaaBl
set_option linter.unusedSimpArgs false
set_option linter.unusedVariables false
namespace Go.Proofs.Ytgmcajojigedaaa
open Go.RowKit

def wordB (n : Nat) (x : List Int) : Bool := decide (1 ≤ x.length ∧ x.length ≤ 8 ∧ x.length = n)
def wordsB (ws : List (List Int)) : Bool := ws.all (fun x => wordB (ws.headD []).length x)
theorem wordsB_one (x : List Int) : wordsB [x] = decide (1 ≤ x.length ∧ x.length ≤ 8) := by simp [wordsB, wordB]
theorem wordsB_two (x y : List Int) : wordsB [x, y] = decide (1 ≤ x.length ∧ x.length ≤ 8 ∧ y.length = x.length) := by
  have e : wordsB [x, y] = (wordB x.length x && (wordB x.length y && true)) := rfl
  rw [e, Bool.and_true]
  unfold wordB
  by_cases h : 1 ≤ x.length ∧ x.length ≤ 8 ∧ y.length = x.length
  · rw [decide_eq_true h, decide_eq_true (by omega), decide_eq_true (by omega)]; rfl
  · rw [decide_eq_false h]
    by_cases h1 : 1 ≤ x.length ∧ x.length ≤ 8 ∧ x.length = x.length
    · rw [decide_eq_false (p := 1 ≤ y.length ∧ y.length ≤ 8 ∧ y.length = x.length) (by omega), Bool.and_false]
    · rw [decide_eq_false h1]; rfl

theorem slw_one {w : World} {B0 : Nat} {A : Option Addr} {c : Nat} {x : List Int} (h : SlI w B0 A c x) :
    SlW (w.alloc (.cells #[.slice A x.length c] 24)) B0 (some ⟨w.heap.size, 0, none⟩) 1 [x] :=
  ⟨[(A, x.length, c)], rfl, by simpa [slV] using sl_new slV 24 w B0 [(A, x.length, c)] (by simp), fun i p y hp hy => by
    match i with
    | 0 => simp at hp hy; subst hp hy; exact ⟨rfl, h.alloc _⟩
    | i + 1 => simp at hp⟩
theorem slw_two {w : World} {B0 : Nat} {A A' : Option Addr} {c c' : Nat} {x y : List Int} (h : SlI w B0 A c x) (k : SlI w B0 A' c' y) :
    SlW (w.alloc (.cells #[.slice A x.length c, .slice A' y.length c'] 24)) B0 (some ⟨w.heap.size, 0, none⟩) 2 [x, y] :=
  ⟨[(A, x.length, c), (A', y.length, c')], rfl, by simpa [slV] using sl_new slV 24 w B0 [(A, x.length, c), (A', y.length, c')] (by simp), fun i p z hp hz => by
    match i with
    | 0 => simp at hp hz; subst hp hz; exact ⟨rfl, h.alloc _⟩
    | 1 => simp at hp hz; subst hp hz; exact ⟨rfl, k.alloc _⟩
    | i + 2 => simp at hp⟩

set_option maxHeartbeats 1000000 in
theorem words_any (ws : List (List Int)) (A : Option Addr) (c B0 : Nat) (w : World) (hs : SlW w B0 A c ws) (hne : 0 < ws.length) (hb : ws.length ≤ 2) :
    Calls Try.prog 102 #[.slice A ws.length c] w fun e w' => e = .returned (.bool (wordsB ws)) ∧ w = w' := by
  obtain ⟨b0, o0, y, A0, c0, hA0, hy, hcy, hsy⟩ := hs.at_ hne
  have hyb := hsy.big
  have hhd : ws.headD [] = y := by cases ws with | nil => simp at hne | cons a r => simp at hy; simp [hy]
  have HHD := Lib.hid hhd
  have HS := Lib.hid hs
  clear hs hy hsy hhd
  subst hA0
  have hcy' : w.cell? ⟨b0, o0, none⟩ = some (.slice A0 y.length c0) := hcy
  clear hcy
  go_enter Try.func102, Try.ntmps102
  go_wp2
  go_loop [4, 7] (fun _ i => ∃ k : Nat, k ≤ ws.length ∧ i = .int .i64 k ∧ ∀ j x, j < k → ws[j]? = some x → wordB y.length x = true) (fun _ i => ws.length - (intOf i).toNat)
  case atStart => exact ⟨0, Nat.zero_le _, rfl, fun j x h => by omega⟩
  case round =>
    obtain ⟨k, hk, rfl, hall⟩ := hrel
    by_cases hlt : k < ws.length
    · obtain ⟨b, o, x, A', c', e, hx, hc, hsx⟩ := HS.out.at_ hlt
      have hxb := hsx.big
      obtain ⟨rfl, rfl⟩ : b = b0 ∧ o = o0 := by cases e; exact ⟨rfl, rfl⟩
      have hno : wordB y.length x = false → wordsB ws = false := fun h => by
        rw [wordsB, HHD.out, Bool.eq_false_iff]
        intro ha
        rw [List.all_eq_true] at ha
        have := ha x (List.mem_of_getElem? hx)
        rw [h] at this
        cases this
      clear e hsx
      by_cases h1 : x.length < 1
      · have hf : Hid (wordsB ws = false) := hno (decide_eq_false (by omega))
        have h1' : (x.length : Int) < 1 := by omega
        clear hno h1
        go_wp2
        go_ret
        exact ⟨by rw [hf.out]; rfl, rfl⟩
      by_cases h2 : 8 < x.length
      · have hf : Hid (wordsB ws = false) := hno (decide_eq_false (by omega))
        have hd1 : decide ((x.length : Int) < 1) = false := decide_eq_false (by omega)
        have h2' : 8 < (x.length : Int) := by omega
        clear hno h1 h2
        go_wp2
        go_ret
        exact ⟨by rw [hf.out]; rfl, rfl⟩
      have hd1 : decide ((x.length : Int) < 1) = false := decide_eq_false (by omega)
      have hd2 : decide ((8 : Int) < (x.length : Int)) = false := decide_eq_false (by omega)
      by_cases h3 : x.length = y.length
      · have hd3 : ((x.length : Int) != (y.length : Int)) = false := by simp [h3]
        have hyes : Hid (wordB y.length x = true) := decide_eq_true (by omega)
        have HX := Lib.hid hx
        have HALL := Lib.hid hall
        clear hno h1 h2 h3 hx hall
        go_wp2
        go_round
        case rel => exact ⟨k + 1, by omega, by go_num, fun j z hj hz => by
          rcases Nat.lt_succ_iff_lt_or_eq.1 hj with h | rfl
          · exact HALL.out j z h hz
          · rw [HX.out] at hz; cases hz; exact hyes.out⟩
        case measure => simp [intOf]; omega
      · have hd3 : ((x.length : Int) != (y.length : Int)) = true := by rw [bne_iff_ne]; omega
        have hf : Hid (wordsB ws = false) := hno (decide_eq_false (by omega))
        clear hno h1 h2 h3 hx
        go_wp2
        go_ret
        exact ⟨by rw [hf.out]; rfl, rfl⟩
    · have hf : Hid (wordsB ws = true) := by
        show _ = _
        rw [wordsB, HHD.out, List.all_eq_true]
        intro x hx
        obtain ⟨j, hj⟩ := List.getElem?_of_mem hx
        exact hall j x (by have := (List.getElem?_eq_some_iff.1 hj).1; omega) hj
      clear hall
      go_wp2
      go_ret
      exact ⟨by rw [hf.out]; rfl, rfl⟩

set_option maxHeartbeats 1000000 in
theorem inverse_any (xs : List Int) (A : Option Addr) (c B0 : Nat) (w : World) (hs : SlI w B0 A c xs) (hl : xs.length ≤ 100) (hx : ∀ x ∈ xs, 0 ≤ x ∧ x < 9223372036854775807) :
    Calls Try.prog 105 #[.slice A xs.length c] w (RetOwnI w (xs.map notL)) := by
  have HS := Lib.hid hs
  have HX := Lib.hid hx
  clear hs hx
  go_enter Try.func105, Try.ntmps105
  go_wp2
  go_loopw [3, 5, 8] (fun v _ i wr => ∃ k : Nat, k ≤ xs.length ∧ i = .int .i64 k ∧ OwnI wr w.heap.size v ((xs.map notL).take k) ∧ Below w.heap.size w wr) (fun _ _ i _ => xs.length - (intOf i).toNat)
  case atStart => exact ⟨0, Nat.zero_le _, rfl, OwnOf.nil _ _, Below.refl _ _⟩
  case round =>
    obtain ⟨k, hk, rfl, hown, hb⟩ := hrel
    by_cases hlt : k < xs.length
    · obtain ⟨b, o, x, rfl, hxk, hc⟩ := (HS.out.below hb).at_ hlt
      have hx01 := HX.out x (List.mem_of_getElem? hxk)
      have hx0 := hx01.1
      have hx1 := hx01.2
      have hlen : ((xs.map notL).take k).length ≤ 100 := by simp; omega
      have hnext : Hid ((xs.map notL).take k ++ [notL x] = (xs.map notL).take (k + 1)) := by
        show _ = _; rw [List.take_add_one, List.getElem?_map, hxk]; rfl
      clear hxk hx01
      go_wp2_with (first
        | (go_at_call 108; refine (not_any _ _ (by omega) (by omega)).mono ?_; rintro e w' ⟨rfl, rfl⟩)
        | (at_builtin; go_must (refine app1 (Value.int .i64) oneInt 24 3 8 Try.underlying24 Try.info3 rfl rfl _ _ rfl _ _ _ _ hown rfl rfl ?_ ?_ ?_ ?_)))
      · omega
      · omega
      · exact hb.size
      intro v' w1 hown1 hgr1
      rw [hnext.out] at hown1
      have hb2 := hb.grown hgr1 hb.size (fun j hj => (hown.lt j hj).1)
      clear hown hb hgr1 hlen hc
      go_wp2
      go_roundw
      case rel => exact ⟨k + 1, by omega, by go_num, hown1, hb2⟩
      case measure => simp [intOf]; omega
    · obtain rfl : k = xs.length := by omega
      rw [List.take_of_length_le (by simp)] at hown
      go_wp2
      go_ret
      exact ⟨_, rfl, hown, hb⟩
end Go.Proofs.Ytgmcajojigedaaa
namespace Go.Proofs.Ytgmcajojigedaaa
open Go.RowKit

/-- A builder, a word so far, a literal that is carried. -/
structure SumS where
  g : GS
  out : List Int
  c : Int
def sumStep (s : SumS) (x y : Int) : SumS :=
  let h := xorF s.g x y
  let o := xorF h.1 h.2 s.c
  let a := andF o.1 x y
  let b := andF a.1 h.2 s.c
  let d := orF b.1 a.2 b.2
  ⟨d.1, s.out ++ [o.2], d.2⟩
def sumK (g : GS) (xs ys : List Int) (c : Int) : Nat → SumS
  | 0 => ⟨g, [], c⟩
  | k + 1 => sumStep (sumK g xs ys c k) (xs.getD k 0) (ys.getD k 0)
def sumF (g : GS) (xs ys : List Int) (c : Int) : SumS := sumK g xs ys c xs.length
structure ChS where
  g : GS
  out : List Int
def chooseK (g : GS) (c : Int) (xs ys : List Int) : Nat → ChS
  | 0 => ⟨g, []⟩
  | k + 1 => let s := chooseK g c xs ys k; let m := muxF s.g c (xs.getD k 0) (ys.getD k 0); ⟨m.1, s.out ++ [m.2]⟩
def chooseF (g : GS) (c : Int) (xs ys : List Int) : ChS := chooseK g c xs ys xs.length

/-- A word of literals. -/
def areLit (g : GS) (xs : List Int) : Prop := ∀ x ∈ xs, isLit g x
theorem areLit.getD {g : GS} {xs : List Int} (h : areLit g xs) (k : Nat) : isLit g (xs.getD k 0) := by
  by_cases hk : k < xs.length
  · have e : xs[k]? = some xs[k] := List.getElem?_eq_getElem hk
    rw [List.getD_eq_getElem?_getD, e]
    exact h _ (List.getElem_mem hk)
  · rw [List.getD_eq_getElem?_getD, List.getElem?_eq_none (by omega)]
    refine ⟨Int.le_refl _, ?_⟩
    have : 0 < g.nodes := by unfold GS.nodes; omega
    show (0 : Int) < _
    omega
theorem Grew.lits {k : Nat} {g g' : GS} (h : Grew k g g') {xs : List Int} (hx : areLit g xs) : areLit g' xs := fun x hm => h.lit (hx x hm)
theorem areLit.push {g : GS} {xs : List Int} {x : Int} (h : areLit g xs) (hx : isLit g x) : areLit g (xs ++ [x]) := fun z hz => by
  rcases List.mem_append.1 hz with h1 | h1
  · exact h z h1
  · simp at h1; subst h1; exact hx
theorem areLit.bound {g : GS} {xs : List Int} (h : areLit g xs) (hn : g.nodes ≤ 1000000) : ∀ x ∈ xs, 0 ≤ x ∧ x < 9223372036854775807 := fun x hx => by
  have := h x hx
  unfold isLit at this
  omega
theorem areLit.map_notL {g : GS} {xs : List Int} (h : areLit g xs) : areLit g (xs.map notL) := fun z hz => by
  obtain ⟨x, hx, rfl⟩ := List.mem_map.1 hz
  exact (h x hx).notL
theorem areLit.bits {g : GS} (n : Nat) (m : Int) : areLit g (bitsI n m) := fun z hz => by
  obtain ⟨k, _, rfl⟩ := List.mem_map.1 hz
  have : 0 < g.nodes := by unfold GS.nodes; omega
  unfold isLit
  omega
theorem lit_zero (g : GS) : isLit g 0 := by have : 0 < g.nodes := by (unfold GS.nodes; omega)
                                            unfold isLit; omega
theorem lit_one (g : GS) : isLit g 1 := by have : 0 < g.nodes := by (unfold GS.nodes; omega)
                                           unfold isLit; omega

structure StepOk (g : GS) (x y c : Int) : Prop where
  n1 : g.nodes + 2 < 65536
  s1 : Grew 3 g (xorF g x y).1 ∧ isLit (xorF g x y).1 (xorF g x y).2
  n2 : (xorF g x y).1.nodes + 2 < 65536
  s2 : Grew 3 (xorF g x y).1 (xorF (xorF g x y).1 (xorF g x y).2 c).1 ∧ isLit (xorF (xorF g x y).1 (xorF g x y).2 c).1 (xorF (xorF g x y).1 (xorF g x y).2 c).2

theorem sumStep_spec {s : SumS} {x y : Int} (hx : isLit s.g x) (hy : isLit s.g y) (hc : isLit s.g s.c) (ho : areLit s.g s.out) (hn : s.g.nodes + 9 ≤ 65536) :
    Grew 9 s.g (sumStep s x y).g ∧ areLit (sumStep s x y).g (sumStep s x y).out ∧ isLit (sumStep s x y).g (sumStep s x y).c := by
  have h1 := xorF_spec hx hy (by omega)
  have n1 := h1.1.nodes
  have h2 := xorF_spec h1.2 (h1.1.lit hc) (by omega)
  have n2 := h2.1.nodes
  have h3 := andF_spec (h2.1.lit (h1.1.lit hx)) (h2.1.lit (h1.1.lit hy)) (by omega)
  have n3 := h3.1.nodes
  have h4 := andF_spec (h3.1.lit (h2.1.lit h1.2)) (h3.1.lit (h2.1.lit (h1.1.lit hc))) (by omega)
  have n4 := h4.1.nodes
  have h5 := orF_spec (h4.1.lit h3.2) h4.2 (by omega)
  have hg := (((h1.1.trans h2.1).trans h3.1).trans h4.1).trans h5.1
  exact ⟨hg, (hg.lits ho).push (((h3.1.trans h4.1).trans h5.1).lit h2.2), h5.2⟩
theorem sumK_spec {g : GS} {xs ys : List Int} {c : Int} (hx : areLit g xs) (hy : areLit g ys) (hc : isLit g c) : ∀ k : Nat, g.nodes + 9 * k ≤ 65536 →
    Grew (9 * k) g (sumK g xs ys c k).g ∧ areLit (sumK g xs ys c k).g (sumK g xs ys c k).out ∧ isLit (sumK g xs ys c k).g (sumK g xs ys c k).c
  | 0, _ => ⟨Grew.refl _ _, fun x h => absurd h (by simp [sumK]), hc⟩
  | k + 1, hn => by
    obtain ⟨h1, h2, h3⟩ := sumK_spec hx hy hc k (by omega)
    have n1 := h1.nodes
    obtain ⟨k1, k2, k3⟩ := sumStep_spec (s := sumK g xs ys c k) (h1.lit (hx.getD k)) (h1.lit (hy.getD k)) h3 h2 (by omega)
    exact ⟨h1.trans k1, k2, k3⟩
theorem sumK_length (g : GS) (xs ys : List Int) (c : Int) : ∀ k, (sumK g xs ys c k).out.length = k
  | 0 => rfl
  | k + 1 => by simp [sumK, sumStep, sumK_length g xs ys c k]
theorem chooseK_spec {g : GS} {xs ys : List Int} {c : Int} (hx : areLit g xs) (hy : areLit g ys) (hc : isLit g c) : ∀ k : Nat, g.nodes + 3 * k ≤ 65536 →
    Grew (3 * k) g (chooseK g c xs ys k).g ∧ areLit (chooseK g c xs ys k).g (chooseK g c xs ys k).out
  | 0, _ => ⟨Grew.refl _ _, fun x h => absurd h (by simp [chooseK])⟩
  | k + 1, hn => by
    obtain ⟨h1, h2⟩ := chooseK_spec hx hy hc k (by omega)
    have n1 := h1.nodes
    have h3 := muxF_spec (g := (chooseK g c xs ys k).g) (h1.lit hc) (h1.lit (hx.getD k)) (h1.lit (hy.getD k)) (by omega)
    exact ⟨h1.trans h3.1, (h3.1.lits h2).push h3.2⟩
theorem chooseK_length (g : GS) (c : Int) (xs ys : List Int) : ∀ k, (chooseK g c xs ys k).out.length = k
  | 0 => rfl
  | k + 1 => by simp [chooseK, chooseK_length g c xs ys k]
theorem getD_of {xs : List Int} {k : Nat} {x : Int} (h : xs[k]? = some x) : xs.getD k 0 = x := by rw [List.getD_eq_getElem?_getD, h]; rfl

theorem Fr.grown_fresh {B0 : Nat} {ts ms : List Nat} {w w' w'' : World} (h : Fr B0 ts ms w w') {row : Option Nat} (hg : w'.grownBy w'' row) (hr : ∀ k, row = some k → w.heap.size ≤ k) : Fr B0 ts ms w w'' :=
  ⟨hg.os.trans h.os, hg.tape.trans h.tape, hg.output.trans h.output, Nat.le_trans h.size hg.size, fun k o hk hn => by
    have h1 := h.block k o hk hn
    rw [hg.block k (lt_of_some h1) (fun e => by have := hr k e.symm; have := lt_of_some hk; omega)]; exact h1⟩
theorem SlOf.cell {α : Type} {F : α → Value} {e : Nat} {w : World} {B0 : Nat} {b o c : Nat} {xs : List α} (h : SlOf F e w B0 (some ⟨b, o, none⟩) c xs) {k : Nat} {x : α} (hx : xs[k]? = some x) : w.cell? ⟨b, o + k, none⟩ = some (F x) := by
  obtain ⟨b', o', h1, _, h2⟩ := h.2.2 (by have := (List.getElem?_eq_some_iff.1 hx).1; omega)
  cases h1
  exact h2 k x hx
theorem fr_own {B0 B : Nat} {w w' : World} {v : Value} {xs : List Int} (ho : OwnI w B v xs) (hB : B0 ≤ B) (hg : w.grownBy w' v.ownBlock) : Fr B0 [3] [] w w' :=
  (Fr.refl B0 [3] [] w).grown hg fun k o e hk => by
    obtain ⟨cs, hc⟩ := ho.typed k e
    rw [hc] at hk
    cases hk
    exact ⟨Nat.le_trans hB (ho.lt k e).1, by simp [turns]⟩

def WordRet (B0 p m : Nat) (w : World) (g : GS) (out : List Int) (e : Ending) (w' : World) : Prop :=
  ∃ v A' c', e = .returned v ∧ OwnI w' w.heap.size v out ∧ Bd B0 w' p m A' c' g ∧ Fr B0 [116, 123] [m] w w'
def SumRet (B0 p m : Nat) (w : World) (s : SumS) (e : Ending) (w' : World) : Prop :=
  ∃ v A' c', e = .returned (.tuple #[v, .int .i64 s.c]) ∧ OwnI w' w.heap.size v s.out ∧ Bd B0 w' p m A' c' s.g ∧ Fr B0 [116, 123] [m] w w'

set_option maxHeartbeats 2000000 in
theorem choose_any (B0 p m : Nat) (A A1 A2 : Option Addr) (c c1 c2 : Nat) (g : GS) (k : Int) (xs ys : List Int) (w : World) (hB : B0 ≤ w.heap.size) (hb : Bd B0 w p m A c g) (hw : GWf g)
    (hl : xs.length ≤ ys.length) (hl9 : xs.length ≤ 9) (hn : g.nodes + 3 * xs.length ≤ 65536) (hk : isLit g k) (hxl : areLit g xs) (hyl : areLit g ys) (h1 : SlI w B0 A1 c1 xs) (h2 : SlI w B0 A2 c2 ys) :
    Calls Try.prog 103 #[.pointer (some ⟨p, 0, none⟩), .int .i64 k, .slice A1 xs.length c1, .slice A2 ys.length c2] w (WordRet B0 p m w (chooseF g k xs ys).g (chooseF g k xs ys).out) := by
  have HB := Lib.hid hb
  have H1 := Lib.hid h1
  have H2 := Lib.hid h2
  have HXL := Lib.hid hxl
  have HYL := Lib.hid hyl
  have HK := Lib.hid hk
  have HW := Lib.hid hw
  have hy9 := h2.big
  clear hb h1 h2 hxl hyl hk hw
  go_enter Try.func103, Try.ntmps103
  go_wp2
  go_loopw [9, 10, 13] (fun u _ i wr => ∃ (j : Nat) (v : Value), v = u ∧ j ≤ xs.length ∧ i = .int .i64 j ∧ OwnI wr w.heap.size v (chooseK g k xs ys j).out ∧ (∃ A' c', Bd B0 wr p m A' c' (chooseK g k xs ys j).g) ∧ Fr B0 [116, 123] [m] w wr) (fun _ _ i _ => xs.length - (intOf i).toNat)
  case atStart => exact ⟨0, _, rfl, Nat.zero_le _, rfl, OwnOf.nil _ _, ⟨A, c, HB.out⟩, Fr.refl _ _ _ _⟩
  case round =>
    obtain ⟨j, v, rfl, hj, rfl, hown, ⟨A', c', hbd⟩, hfr⟩ := hrel
    by_cases hlt : j < xs.length
    · obtain ⟨b1, o1, x, rfl, hx, hcx⟩ := (H1.out.fr hfr (by decide)).at_ hlt
      obtain ⟨b2, o2, y, rfl, hy, hcy⟩ := (H2.out.fr hfr (by decide)).at_ (k := j) (by omega)
      have hltI : (j : Int) < (xs.length : Int) := by omega
      have hlt2 : (j : Int) < (ys.length : Int) := by omega
      have HS := Lib.hid (chooseK_spec HXL.out HYL.out HK.out j (by omega))
      have hlen : Hid ((chooseK g k xs ys j).out.length = j) := chooseK_length g k xs ys j
      have hx' : Hid (xs.getD j 0 = x) := getD_of hx
      have hy' : Hid (ys.getD j 0 = y) := getD_of hy
      have hnext : Hid (chooseK g k xs ys (j + 1) = ⟨(muxF (chooseK g k xs ys j).g k x y).1, (chooseK g k xs ys j).out ++ [(muxF (chooseK g k xs ys j).g k x y).2]⟩) := by
        show _ = _; rw [chooseK, hx'.out, hy'.out]
      have hlx : Hid (isLit g x) := by have := HXL.out.getD j; rwa [hx'.out] at this
      have hly : Hid (isLit g y) := by have := HYL.out.getD j; rwa [hy'.out] at this
      have hbw := Lib.hid (hfr.size)
      have HBD := Lib.hid hbd
      have HFR := Lib.hid hfr
      have HOWN := Lib.hid hown
      have hnn : Hid ((chooseK g k xs ys j).g.nodes + 2 < 65536) := by show _ < _; have := HS.out.1.nodes; omega
      have HXJ := Lib.hid hx
      have HYJ := Lib.hid hy
      clear hx hy hbd hfr hown
      generalize hST : chooseK g k xs ys j = st at HS hlen hnext HBD HOWN hnn
      clear hST
      go_wp2
      refine wp_region_G [11, 12, 13] [(6, fun w' => w'.cell? ⟨b1, o1 + j, none⟩ = some (.int .i64 x)), (10, fun w' => w'.cell? ⟨b2, o2 + j, none⟩ = some (.int .i64 y))] (by kernel_rfl) ?_
      refine wpG_take (i := 0) (v := ?_) rfl (by kernel_rfl) rfl (by kernel_rfl) (by kernel_rfl) (fun _ _ _ h => h) (by rfl) ?_ (asks_none rfl _) ?_
      rotate_left
      · intro w _; go_simp; rfl
      simp only [Act.put, List.getElem_toArray, List.getElem_cons_zero, List.getElem_cons_succ, List.setIfInBounds_toArray, List.set_cons_zero, List.set_cons_succ]
      refine wpG_take (i := 1) (v := ?_) rfl (by kernel_rfl) rfl (by kernel_rfl) (by kernel_rfl) (fun _ _ _ h => h) (by rfl) ?_ (asks_none rfl _) ?_
      rotate_left
      · intro w _; go_simp; rfl
      simp only [Act.put, List.getElem_toArray, List.getElem_cons_zero, List.getElem_cons_succ, List.setIfInBounds_toArray, List.set_cons_zero, List.set_cons_succ]
      refine wpG_take (i := 2) (v := ?_) rfl (by kernel_rfl) rfl (by kernel_rfl) (by kernel_rfl) (fun _ _ _ h => h) (by rfl) ?_ (asks_none rfl _) ?_
      rotate_left
      · intro w _; go_simp; rfl
      simp only [Act.put, List.getElem_toArray, List.getElem_cons_zero, List.getElem_cons_succ, List.setIfInBounds_toArray, List.set_cons_zero, List.set_cons_succ]
      refine wpG_take (i := 3) (v := ?_) rfl (by kernel_rfl) rfl (by kernel_rfl) (by kernel_rfl) (fun _ _ _ h => h) (by rfl) ?_ (asks_none rfl _) ?_
      rotate_left
      · intro w _; go_simp; rfl
      simp only [Act.put, List.getElem_toArray, List.getElem_cons_zero, List.getElem_cons_succ, List.setIfInBounds_toArray, List.set_cons_zero, List.set_cons_succ]
      refine wpG_take (i := 4) (v := ?_) rfl (by kernel_rfl) rfl (by kernel_rfl) (by kernel_rfl) (fun _ _ _ h => h) (by rfl) ?_ (asks_none rfl _) ?_
      rotate_left
      · intro w _; go_simp; rfl
      simp only [Act.put, List.getElem_toArray, List.getElem_cons_zero, List.getElem_cons_succ, List.setIfInBounds_toArray, List.set_cons_zero, List.set_cons_succ]
      refine wpG_take (i := 5) (v := ?_) rfl (by kernel_rfl) rfl (by kernel_rfl) (by kernel_rfl) (fun _ _ _ h => h) (by rfl) ?_ (asks_none rfl _) ?_
      rotate_left
      · intro w _; go_simp; rfl
      simp only [Act.put, List.getElem_toArray, List.getElem_cons_zero, List.getElem_cons_succ, List.setIfInBounds_toArray, List.set_cons_zero, List.set_cons_succ]
      refine wpG_take (i := 6) (v := ?_) rfl (by kernel_rfl) rfl (by kernel_rfl) (by kernel_rfl) (fun _ _ _ h => h) (by rfl) ?_ (by simp [asksOf]; exact hcx) ?_
      rotate_left
      · intro w hw; simp [asksOf] at hw; go_simp; rfl
      simp only [Act.put, List.getElem_toArray, List.getElem_cons_zero, List.getElem_cons_succ, List.setIfInBounds_toArray, List.set_cons_zero, List.set_cons_succ]
      refine wpG_take (i := 7) (v := ?_) rfl (by kernel_rfl) rfl (by kernel_rfl) (by kernel_rfl) (fun _ _ _ h => h) (by rfl) ?_ (asks_none rfl _) ?_
      rotate_left
      · intro w _; go_simp; rfl
      simp only [Act.put, List.getElem_toArray, List.getElem_cons_zero, List.getElem_cons_succ, List.setIfInBounds_toArray, List.set_cons_zero, List.set_cons_succ]
      refine wpG_take (i := 8) (v := ?_) rfl (by kernel_rfl) rfl (by kernel_rfl) (by kernel_rfl) (fun _ _ _ h => h) (by rfl) ?_ (asks_none rfl _) ?_
      rotate_left
      · intro w _; go_simp; rfl
      simp only [Act.put, List.getElem_toArray, List.getElem_cons_zero, List.getElem_cons_succ, List.setIfInBounds_toArray, List.set_cons_zero, List.set_cons_succ]
      refine wpG_take (i := 9) (v := ?_) rfl (by kernel_rfl) rfl (by kernel_rfl) (by kernel_rfl) (fun _ _ _ h => h) (by rfl) ?_ (asks_none rfl _) ?_
      rotate_left
      · intro w _; go_simp; rfl
      simp only [Act.put, List.getElem_toArray, List.getElem_cons_zero, List.getElem_cons_succ, List.setIfInBounds_toArray, List.set_cons_zero, List.set_cons_succ]
      refine wpG_take (i := 10) (v := ?_) rfl (by kernel_rfl) rfl (by kernel_rfl) (by kernel_rfl) (fun _ _ _ h => h) (by rfl) ?_ (by simp [asksOf]; exact hcy) ?_
      rotate_left
      · intro w hw; simp [asksOf] at hw; go_simp; rfl
      simp only [Act.put, List.getElem_toArray, List.getElem_cons_zero, List.getElem_cons_succ, List.setIfInBounds_toArray, List.set_cons_zero, List.set_cons_succ]
      refine wpG_loud (i := 11) rfl rfl rfl (by kernel_rfl) (fun K hK => ?_)
      go_simp
      refine (mux_any B0 p m A' c' st.g k x y wr.drew (Nat.le_trans hB hbw.out) (HBD.out.drewN 1) hnn.out (HS.out.1.wf HW.out) (HS.out.1.lit HK.out) (HS.out.1.lit hlx.out) (HS.out.1.lit hly.out)).mono ?_
      rintro e w2 ⟨A2', c2', rfl, hbd2, hf2⟩
      have hf02 := HFR.out.drew.trans hf2
      have hcx2 := (H1.out.fr hf02 (by decide)).cell HXJ.out
      have hcy2 := (H2.out.fr hf02 (by decide)).cell HYJ.out
      have HO2 : Hid (OwnI w2 w.heap.size v st.out) := HOWN.out.drew.fr hf2 (by decide)
      have HF02 := Lib.hid hf02
      have HBD2 := Lib.hid hbd2
      clear hf02 hbd2 hf2 hcx hcy
      refine hK _ _ ?_ ?_
      · intro q hq hwt; simp only [List.mem_cons, List.not_mem_nil, or_false] at hq; rcases hq with rfl | rfl
        · exact Bool.noConfusion (hwt.symm.trans (show _ = true from by kernel_rfl))
        · exact Bool.noConfusion (hwt.symm.trans (show _ = true from by kernel_rfl))
      clear hK K
      try simp only [Act.put, List.getElem_toArray, List.getElem_cons_zero, List.getElem_cons_succ, List.setIfInBounds_toArray, List.set_cons_zero, List.set_cons_succ]
      refine wpG_loud (i := 12) rfl rfl rfl (by kernel_rfl) (fun K hK => ?_)
      go_simp
      have al : ∀ (q : Addr) (u : Value), w2.cell? q = some u → (w2.alloc (.cells #[.int .i64 (muxF st.g k x y).2] 3)).cell? q = some u := fun q u h => (World.cell?_alloc_lt w2 _ q (World.block_lt_of_cell? w2 q h)).trans h
      refine hK _ _ ?_ ?_
      · intro q hq hwt; simp only [List.mem_cons, List.not_mem_nil, or_false] at hq; rcases hq with rfl | rfl
        · exact al _ _ hcx2
        · exact al _ _ hcy2
      clear hK K al
      refine wpG_loud (i := 13) rfl rfl rfl (by kernel_rfl) (fun K hK => ?_)
      refine wp_append_src _ _ _ _ (by rfl) w.heap.size 3 _ 1 8 Try.underlying24 Try.info3 rfl (by decide) _ _ _ (OwnOf.alloc HO2.out (.cells #[.int .i64 (muxF st.g k x y).2] 3)) (by rfl) (some ⟨w2.heap.size, 0, none⟩) 1 1 [.int .i64 (muxF st.g k x y).2] (by rfl) rfl (fun _ => ⟨_, rfl, cell_one_new _ _ _⟩) (by simp [Value.oneCell']) ?b1 ?b2 ?b3 ?_
      case b1 => rw [hlen.out]; unfold maxLen; omega
      case b2 => rw [hlen.out]; omega
      case b3 => simp; have := HF02.out.size; omega
      intro v3 w3 hown3 hgrow
      have hg2 : w2.grownBy w3 v.ownBlock := (World.grownBy_alloc _ _ _).trans hgrow
      have hf3 := fr_own (B0 := B0) HO2.out hB hg2
      have hf03 := HF02.out.grown_fresh hg2 (fun k e => (HO2.out.lt k e).1)
      have HBD3 := Lib.hid (HBD2.out.fr hf3 (by decide) (by decide) (by simp))
      have hcx3 := (H1.out.fr hf03 (by decide)).cell HXJ.out
      have hcy3 := (H2.out.fr hf03 (by decide)).cell HYJ.out
      have HO3 := Lib.hid hown3
      have HF03 := Lib.hid hf03
      clear hown3 hgrow hg2 hf3 hf03
      refine hK _ _ ?_ ?_
      · intro q hq hwt; simp only [List.mem_cons, List.not_mem_nil, or_false] at hq; rcases hq with rfl | rfl
        · exact hcx3
        · exact hcy3
      clear hK K
      try simp only [Act.put, List.getElem_toArray, List.getElem_cons_zero, List.getElem_cons_succ, List.setIfInBounds_toArray, List.set_cons_zero, List.set_cons_succ]
      refine wpG_take (i := 14) (v := ?_) rfl (by kernel_rfl) rfl (by kernel_rfl) (by kernel_rfl) (fun _ _ _ h => h) (by rfl) ?_ (asks_none rfl _) ?_
      rotate_left
      · intro w _; go_simp; rfl
      simp only [Act.put, List.getElem_toArray, List.getElem_cons_zero, List.getElem_cons_succ, List.setIfInBounds_toArray, List.set_cons_zero, List.set_cons_succ]
      refine wpG_done (by kernel_rfl) ?_
      go_wp2_with fail
      go_roundw
      case rel =>
        refine ⟨j + 1, _, rfl, by omega, by go_num, ?_⟩
        rw [hnext.out]
        refine ⟨?_, ⟨_, _, HBD3.out⟩, HF03.out⟩
        unfold OwnI OwnOf; rw [List.length_append, List.map_append]; exact HO3.out
      case measure => simp [intOf]; omega
    · obtain rfl : j = xs.length := by omega
      go_wp2
      go_ret
      exact ⟨_, A', c', rfl, hown, hbd, hfr⟩

set_option maxHeartbeats 4000000 in
theorem sum_any (B0 p m : Nat) (A A1 A2 : Option Addr) (c c1 c2 : Nat) (g : GS) (k : Int) (xs ys : List Int) (w : World) (hB : B0 ≤ w.heap.size) (hb : Bd B0 w p m A c g) (hw : GWf g)
    (hl : xs.length ≤ ys.length) (hl9 : xs.length ≤ 9) (hn : g.nodes + 9 * xs.length ≤ 65536) (hk : isLit g k) (hxl : areLit g xs) (hyl : areLit g ys) (h1 : SlI w B0 A1 c1 xs) (h2 : SlI w B0 A2 c2 ys) :
    Calls Try.prog 104 #[.pointer (some ⟨p, 0, none⟩), .slice A1 xs.length c1, .slice A2 ys.length c2, .int .i64 k] w (SumRet B0 p m w (sumF g xs ys k)) := by
  have HB := Lib.hid hb
  have H1 := Lib.hid h1
  have H2 := Lib.hid h2
  have HXL := Lib.hid hxl
  have HYL := Lib.hid hyl
  have HK := Lib.hid hk
  have HW := Lib.hid hw
  have hy9 := h2.big
  clear hb h1 h2 hxl hyl hk hw
  go_enter Try.func104, Try.ntmps104
  go_wp2
  go_loopw [3, 10, 11, 12, 15] (fun uc u _ _ i wr => ∃ (j : Nat) (v : Value), v = u ∧ uc = .int .i64 (sumK g xs ys k j).c ∧ j ≤ xs.length ∧ i = .int .i64 j ∧ OwnI wr w.heap.size v (sumK g xs ys k j).out ∧ (∃ A' c', Bd B0 wr p m A' c' (sumK g xs ys k j).g) ∧ Fr B0 [116, 123] [m] w wr) (fun _ _ _ _ i _ => xs.length - (intOf i).toNat)
  case atStart => exact ⟨0, _, rfl, rfl, Nat.zero_le _, rfl, OwnOf.nil _ _, ⟨A, c, HB.out⟩, Fr.refl _ _ _ _⟩
  case round =>
    obtain ⟨j, v, rfl, rfl, hj, rfl, hown, ⟨A', c', hbd⟩, hfr⟩ := hrel
    by_cases hlt : j < xs.length
    · obtain ⟨b1, o1, x, rfl, hx, hcx⟩ := (H1.out.fr hfr (by decide)).at_ hlt
      obtain ⟨b2, o2, y, rfl, hy, hcy⟩ := (H2.out.fr hfr (by decide)).at_ (k := j) (by omega)
      have hltI : (j : Int) < (xs.length : Int) := by omega
      have hlt2 : (j : Int) < (ys.length : Int) := by omega
      have HS := Lib.hid (sumK_spec HXL.out HYL.out HK.out j (by omega))
      have hlen : Hid ((sumK g xs ys k j).out.length = j) := sumK_length g xs ys k j
      have hx' : Hid (xs.getD j 0 = x) := getD_of hx
      have hy' : Hid (ys.getD j 0 = y) := getD_of hy
      have hnext : Hid (sumK g xs ys k (j + 1) = sumStep (sumK g xs ys k j) x y) := by
        show _ = _; rw [sumK, hx'.out, hy'.out]
      have hlx : Hid (isLit g x) := by have := HXL.out.getD j; rwa [hx'.out] at this
      have hly : Hid (isLit g y) := by have := HYL.out.getD j; rwa [hy'.out] at this
      have hbw := Lib.hid (hfr.size)
      have HBD := Lib.hid hbd
      have HFR := Lib.hid hfr
      have HOWN := Lib.hid hown
      have hnn : Hid ((sumK g xs ys k j).g.nodes + 9 ≤ 65536) := by show _ ≤ _; have := HS.out.1.nodes; omega
      have HXJ := Lib.hid hx
      have HYJ := Lib.hid hy
      clear hx hy hbd hfr hown
      generalize hST : sumK g xs ys k j = st at HS hlen hnext HBD HOWN hnn
      clear hST
      have LX := Lib.hid (HS.out.1.lit hlx.out)
      have LY := Lib.hid (HS.out.1.lit hly.out)
      have hstep : sumStep st x y = sumStep st x y := rfl
      have S1 := xorF_spec LX.out LY.out (by have := hnn.out; omega)
      obtain ⟨h, e1⟩ : ∃ h, xorF st.g x y = h := ⟨_, rfl⟩
      rw [e1] at S1
      have N1 : h.1.nodes ≤ st.g.nodes + 3 := S1.1.nodes.2
      have S2 := xorF_spec S1.2 (S1.1.lit HS.out.2.2) (by have := hnn.out; omega)
      obtain ⟨o, e2⟩ : ∃ o, xorF h.1 h.2 st.c = o := ⟨_, rfl⟩
      rw [e2] at S2
      have N2 : o.1.nodes ≤ h.1.nodes + 3 := S2.1.nodes.2
      have S3 := andF_spec (S2.1.lit (S1.1.lit LX.out)) (S2.1.lit (S1.1.lit LY.out)) (by have := hnn.out; omega)
      obtain ⟨a, e3⟩ : ∃ a, andF o.1 x y = a := ⟨_, rfl⟩
      rw [e3] at S3
      have N3 : a.1.nodes ≤ o.1.nodes + 1 := S3.1.nodes.2
      have S4 := andF_spec (S3.1.lit (S2.1.lit S1.2)) (S3.1.lit (S2.1.lit (S1.1.lit HS.out.2.2))) (by have := hnn.out; omega)
      obtain ⟨b, e4⟩ : ∃ b, andF a.1 h.2 st.c = b := ⟨_, rfl⟩
      rw [e4] at S4
      have N4 : b.1.nodes ≤ a.1.nodes + 1 := S4.1.nodes.2
      obtain ⟨d, e5⟩ : ∃ d, orF b.1 a.2 b.2 = d := ⟨_, rfl⟩
      have hst2 : sumStep st x y = ⟨d.1, st.out ++ [o.2], d.2⟩ := by unfold sumStep; simp only [e1, e2, e3, e4, e5]
      rw [hst2] at hnext
      have E1 := Lib.hid e1
      have E2 := Lib.hid e2
      have E3 := Lib.hid e3
      have E4 := Lib.hid e4
      have E5 := Lib.hid e5
      have S1' := Lib.hid S1
      have S2' := Lib.hid S2
      have S3' := Lib.hid S3
      have S4' := Lib.hid S4
      have M0 : Hid (st.g.nodes + 2 < 65536) := by show _ < _; have := hnn.out; omega
      have M1 : Hid (h.1.nodes + 2 < 65536) := by show _ < _; have := hnn.out; omega
      have M2 : Hid (o.1.nodes < 65536) := by show _ < _; have := hnn.out; omega
      have M3 : Hid (a.1.nodes < 65536) := by show _ < _; have := hnn.out; omega
      have M4 : Hid (b.1.nodes < 65536) := by show _ < _; have := hnn.out; omega
      clear e1 e2 e3 e4 e5 S1 S2 S3 S4 N1 N2 N3 N4 hst2 hstep
      go_wp2
      refine wp_region_G [9] [(4, fun w' => w'.cell? ⟨b1, o1 + j, none⟩ = some (.int .i64 x)), (8, fun w' => w'.cell? ⟨b2, o2 + j, none⟩ = some (.int .i64 y))] (by kernel_rfl) ?_
      refine wpG_take (i := 0) (v := ?_) rfl (by kernel_rfl) rfl (by kernel_rfl) (by kernel_rfl) (fun _ _ _ h => h) (by rfl) ?_ (asks_none rfl _) ?_
      rotate_left
      · intro w _; go_simp; rfl
      simp only [Act.put, List.getElem_toArray, List.getElem_cons_zero, List.getElem_cons_succ, List.setIfInBounds_toArray, List.set_cons_zero, List.set_cons_succ]
      refine wpG_take (i := 1) (v := ?_) rfl (by kernel_rfl) rfl (by kernel_rfl) (by kernel_rfl) (fun _ _ _ h => h) (by rfl) ?_ (asks_none rfl _) ?_
      rotate_left
      · intro w _; go_simp; rfl
      simp only [Act.put, List.getElem_toArray, List.getElem_cons_zero, List.getElem_cons_succ, List.setIfInBounds_toArray, List.set_cons_zero, List.set_cons_succ]
      refine wpG_take (i := 2) (v := ?_) rfl (by kernel_rfl) rfl (by kernel_rfl) (by kernel_rfl) (fun _ _ _ h => h) (by rfl) ?_ (asks_none rfl _) ?_
      rotate_left
      · intro w _; go_simp; rfl
      simp only [Act.put, List.getElem_toArray, List.getElem_cons_zero, List.getElem_cons_succ, List.setIfInBounds_toArray, List.set_cons_zero, List.set_cons_succ]
      refine wpG_take (i := 3) (v := ?_) rfl (by kernel_rfl) rfl (by kernel_rfl) (by kernel_rfl) (fun _ _ _ h => h) (by rfl) ?_ (asks_none rfl _) ?_
      rotate_left
      · intro w _; go_simp; rfl
      simp only [Act.put, List.getElem_toArray, List.getElem_cons_zero, List.getElem_cons_succ, List.setIfInBounds_toArray, List.set_cons_zero, List.set_cons_succ]
      refine wpG_take (i := 4) (v := ?_) rfl (by kernel_rfl) rfl (by kernel_rfl) (by kernel_rfl) (fun _ _ _ h => h) (by rfl) ?_ (by simp [asksOf]; exact hcx) ?_
      rotate_left
      · intro w hw; simp [asksOf] at hw; go_simp; rfl
      simp only [Act.put, List.getElem_toArray, List.getElem_cons_zero, List.getElem_cons_succ, List.setIfInBounds_toArray, List.set_cons_zero, List.set_cons_succ]
      refine wpG_take (i := 5) (v := ?_) rfl (by kernel_rfl) rfl (by kernel_rfl) (by kernel_rfl) (fun _ _ _ h => h) (by rfl) ?_ (asks_none rfl _) ?_
      rotate_left
      · intro w _; go_simp; rfl
      simp only [Act.put, List.getElem_toArray, List.getElem_cons_zero, List.getElem_cons_succ, List.setIfInBounds_toArray, List.set_cons_zero, List.set_cons_succ]
      refine wpG_take (i := 6) (v := ?_) rfl (by kernel_rfl) rfl (by kernel_rfl) (by kernel_rfl) (fun _ _ _ h => h) (by rfl) ?_ (asks_none rfl _) ?_
      rotate_left
      · intro w _; go_simp; rfl
      simp only [Act.put, List.getElem_toArray, List.getElem_cons_zero, List.getElem_cons_succ, List.setIfInBounds_toArray, List.set_cons_zero, List.set_cons_succ]
      refine wpG_take (i := 7) (v := ?_) rfl (by kernel_rfl) rfl (by kernel_rfl) (by kernel_rfl) (fun _ _ _ h => h) (by rfl) ?_ (asks_none rfl _) ?_
      rotate_left
      · intro w _; go_simp; rfl
      simp only [Act.put, List.getElem_toArray, List.getElem_cons_zero, List.getElem_cons_succ, List.setIfInBounds_toArray, List.set_cons_zero, List.set_cons_succ]
      refine wpG_take (i := 8) (v := ?_) rfl (by kernel_rfl) rfl (by kernel_rfl) (by kernel_rfl) (fun _ _ _ h => h) (by rfl) ?_ (by simp [asksOf]; exact hcy) ?_
      rotate_left
      · intro w hw; simp [asksOf] at hw; go_simp; rfl
      simp only [Act.put, List.getElem_toArray, List.getElem_cons_zero, List.getElem_cons_succ, List.setIfInBounds_toArray, List.set_cons_zero, List.set_cons_succ]
      refine wpG_loud (i := 9) rfl rfl rfl (by kernel_rfl) (fun K hK => ?_)
      go_simp
      refine (xor_any B0 p m A' c' st.g x y wr.drew (Nat.le_trans hB hbw.out) (HBD.out.drewN 1) M0.out (HS.out.1.wf HW.out) LX.out LY.out).mono ?_
      rintro e w2 ⟨A2', c2', rfl, hbd2, hf2⟩
      rw [E1.out] at hbd2 ⊢
      have hf02 := HFR.out.drew.trans hf2
      have hcx2 := (H1.out.fr hf02 (by decide)).cell HXJ.out
      have hcy2 := (H2.out.fr hf02 (by decide)).cell HYJ.out
      have HO2 : Hid (OwnI w2 w.heap.size v st.out) := HOWN.out.drew.fr hf2 (by decide)
      have HF02 := Lib.hid hf02
      have HBD2 := Lib.hid hbd2
      clear hf02 hbd2 hf2 hcx hcy
      refine hK _ _ ?_ ?_
      · intro q hq hwt; simp only [List.mem_cons, List.not_mem_nil, or_false] at hq; rcases hq with rfl | rfl
        · exact Bool.noConfusion (hwt.symm.trans (show _ = true from by kernel_rfl))
        · exact Bool.noConfusion (hwt.symm.trans (show _ = true from by kernel_rfl))
      clear hK K hcx2 hcy2
      try simp only [Act.put, List.getElem_toArray, List.getElem_cons_zero, List.getElem_cons_succ, List.setIfInBounds_toArray, List.set_cons_zero, List.set_cons_succ]
      refine wpG_take (i := 10) (v := ?_) rfl (by kernel_rfl) rfl (by kernel_rfl) (by kernel_rfl) (fun _ _ _ h => h) (by rfl) ?_ (asks_none rfl _) ?_
      rotate_left
      · intro w _; go_simp; rfl
      simp only [Act.put, List.getElem_toArray, List.getElem_cons_zero, List.getElem_cons_succ, List.setIfInBounds_toArray, List.set_cons_zero, List.set_cons_succ]
      refine wpG_done (by kernel_rfl) ?_
      go_wp2_with (first
        | (go_at_call 106; refine (xor_any B0 p m A2' c2' h.1 h.2 st.c _ (Nat.le_trans hB HF02.out.size) HBD2.out M1.out (S1'.out.1.wf (HS.out.1.wf HW.out)) S1'.out.2 (S1'.out.1.lit HS.out.2.2)).mono ?_; rintro e w3 ⟨A3', c3', rfl, hbd3, hf3⟩; rw [E2.out] at hbd3 ⊢; have HBD3 := Lib.hid hbd3; have HF03 := Lib.hid (HF02.out.trans hf3); have hO3 : OwnI w3 w.heap.size v st.out := HO2.out.fr hf3 (by decide); clear hbd3 hf3)
        | (at_builtin; go_must (refine app1 (Value.int .i64) oneInt 24 3 8 Try.underlying24 Try.info3 rfl rfl _ _ rfl _ _ _ _ hO3 rfl rfl ?_ ?_ ?_ ?_)))
      · rw [hlen.out]; omega
      · rw [hlen.out]; omega
      · exact HF03.out.size
      intro v4 w4 hown4 hg2
      have hf3 := fr_own (B0 := B0) hO3 hB hg2
      have hf04 := HF03.out.grown_fresh hg2 (fun k e => (hO3.lt k e).1)
      have HBD4 := Lib.hid (HBD3.out.fr hf3 (by decide) (by decide) (by simp))
      have hcx4 := (H1.out.fr hf04 (by decide)).cell HXJ.out
      have hcy4 := (H2.out.fr hf04 (by decide)).cell HYJ.out
      have HO4 := Lib.hid hown4
      have HF04 := Lib.hid hf04
      clear hown4 hg2 hf3 hf04 hO3 HF03 HBD3 HF02 HBD2 HO2
      go_wp2
      refine wp_region_G [10, 14, 15] [(5, fun w' => w'.cell? ⟨b1, o1 + j, none⟩ = some (.int .i64 x)), (9, fun w' => w'.cell? ⟨b2, o2 + j, none⟩ = some (.int .i64 y))] (by kernel_rfl) ?_
      refine wpG_take (i := 0) (v := ?_) rfl (by kernel_rfl) rfl (by kernel_rfl) (by kernel_rfl) (fun _ _ _ h => h) (by rfl) ?_ (asks_none rfl _) ?_
      rotate_left
      · intro w _; go_simp; rfl
      simp only [Act.put, List.getElem_toArray, List.getElem_cons_zero, List.getElem_cons_succ, List.setIfInBounds_toArray, List.set_cons_zero, List.set_cons_succ]
      refine wpG_take (i := 1) (v := ?_) rfl (by kernel_rfl) rfl (by kernel_rfl) (by kernel_rfl) (fun _ _ _ h => h) (by rfl) ?_ (asks_none rfl _) ?_
      rotate_left
      · intro w _; go_simp; rfl
      simp only [Act.put, List.getElem_toArray, List.getElem_cons_zero, List.getElem_cons_succ, List.setIfInBounds_toArray, List.set_cons_zero, List.set_cons_succ]
      refine wpG_take (i := 2) (v := ?_) rfl (by kernel_rfl) rfl (by kernel_rfl) (by kernel_rfl) (fun _ _ _ h => h) (by rfl) ?_ (asks_none rfl _) ?_
      rotate_left
      · intro w _; go_simp; rfl
      simp only [Act.put, List.getElem_toArray, List.getElem_cons_zero, List.getElem_cons_succ, List.setIfInBounds_toArray, List.set_cons_zero, List.set_cons_succ]
      refine wpG_take (i := 3) (v := ?_) rfl (by kernel_rfl) rfl (by kernel_rfl) (by kernel_rfl) (fun _ _ _ h => h) (by rfl) ?_ (asks_none rfl _) ?_
      rotate_left
      · intro w _; go_simp; rfl
      simp only [Act.put, List.getElem_toArray, List.getElem_cons_zero, List.getElem_cons_succ, List.setIfInBounds_toArray, List.set_cons_zero, List.set_cons_succ]
      refine wpG_take (i := 4) (v := ?_) rfl (by kernel_rfl) rfl (by kernel_rfl) (by kernel_rfl) (fun _ _ _ h => h) (by rfl) ?_ (asks_none rfl _) ?_
      rotate_left
      · intro w _; go_simp; rfl
      simp only [Act.put, List.getElem_toArray, List.getElem_cons_zero, List.getElem_cons_succ, List.setIfInBounds_toArray, List.set_cons_zero, List.set_cons_succ]
      refine wpG_take (i := 5) (v := ?_) rfl (by kernel_rfl) rfl (by kernel_rfl) (by kernel_rfl) (fun _ _ _ h => h) (by rfl) ?_ (by simp [asksOf]; exact hcx4) ?_
      rotate_left
      · intro w hw; simp [asksOf] at hw; go_simp; rfl
      simp only [Act.put, List.getElem_toArray, List.getElem_cons_zero, List.getElem_cons_succ, List.setIfInBounds_toArray, List.set_cons_zero, List.set_cons_succ]
      refine wpG_take (i := 6) (v := ?_) rfl (by kernel_rfl) rfl (by kernel_rfl) (by kernel_rfl) (fun _ _ _ h => h) (by rfl) ?_ (asks_none rfl _) ?_
      rotate_left
      · intro w _; go_simp; rfl
      simp only [Act.put, List.getElem_toArray, List.getElem_cons_zero, List.getElem_cons_succ, List.setIfInBounds_toArray, List.set_cons_zero, List.set_cons_succ]
      refine wpG_take (i := 7) (v := ?_) rfl (by kernel_rfl) rfl (by kernel_rfl) (by kernel_rfl) (fun _ _ _ h => h) (by rfl) ?_ (asks_none rfl _) ?_
      rotate_left
      · intro w _; go_simp; rfl
      simp only [Act.put, List.getElem_toArray, List.getElem_cons_zero, List.getElem_cons_succ, List.setIfInBounds_toArray, List.set_cons_zero, List.set_cons_succ]
      refine wpG_take (i := 8) (v := ?_) rfl (by kernel_rfl) rfl (by kernel_rfl) (by kernel_rfl) (fun _ _ _ h => h) (by rfl) ?_ (asks_none rfl _) ?_
      rotate_left
      · intro w _; go_simp; rfl
      simp only [Act.put, List.getElem_toArray, List.getElem_cons_zero, List.getElem_cons_succ, List.setIfInBounds_toArray, List.set_cons_zero, List.set_cons_succ]
      refine wpG_take (i := 9) (v := ?_) rfl (by kernel_rfl) rfl (by kernel_rfl) (by kernel_rfl) (fun _ _ _ h => h) (by rfl) ?_ (by simp [asksOf]; exact hcy4) ?_
      rotate_left
      · intro w hw; simp [asksOf] at hw; go_simp; rfl
      simp only [Act.put, List.getElem_toArray, List.getElem_cons_zero, List.getElem_cons_succ, List.setIfInBounds_toArray, List.set_cons_zero, List.set_cons_succ]
      refine wpG_take (i := 11) (v := ?_) rfl (by kernel_rfl) rfl (by kernel_rfl) (by kernel_rfl) (fun _ _ _ h => h) (by rfl) ?_ (asks_none rfl _) ?_
      rotate_left
      · intro w _; go_simp; rfl
      simp only [Act.put, List.getElem_toArray, List.getElem_cons_zero, List.getElem_cons_succ, List.setIfInBounds_toArray, List.set_cons_zero, List.set_cons_succ]
      refine wpG_take (i := 12) (v := ?_) rfl (by kernel_rfl) rfl (by kernel_rfl) (by kernel_rfl) (fun _ _ _ h => h) (by rfl) ?_ (asks_none rfl _) ?_
      rotate_left
      · intro w _; go_simp; rfl
      simp only [Act.put, List.getElem_toArray, List.getElem_cons_zero, List.getElem_cons_succ, List.setIfInBounds_toArray, List.set_cons_zero, List.set_cons_succ]
      refine wpG_take (i := 13) (v := ?_) rfl (by kernel_rfl) rfl (by kernel_rfl) (by kernel_rfl) (fun _ _ _ h => h) (by rfl) ?_ (asks_none rfl _) ?_
      rotate_left
      · intro w _; go_simp; rfl
      simp only [Act.put, List.getElem_toArray, List.getElem_cons_zero, List.getElem_cons_succ, List.setIfInBounds_toArray, List.set_cons_zero, List.set_cons_succ]
      refine wpG_loud (i := 10) rfl rfl rfl (by kernel_rfl) (fun K hK => ?_)
      go_simp
      refine (and_any B0 p m A3' c3' o.1 x y w4.drew (Nat.le_trans hB HF04.out.size) (HBD4.out.drewN 1) M2.out (S2'.out.1.wf (S1'.out.1.wf (HS.out.1.wf HW.out))) (S2'.out.1.lit (S1'.out.1.lit LX.out)) (S2'.out.1.lit (S1'.out.1.lit LY.out))).mono ?_
      rintro e w5 ⟨A5', c5', rfl, hbd5, hf5⟩
      rw [E3.out] at hbd5 ⊢
      have hf05 := HF04.out.drew.trans hf5
      have HO5 : Hid (OwnI w5 w.heap.size v4 (st.out ++ [o.2])) := HO4.out.drew.fr hf5 (by decide)
      have hcx5 := (H1.out.fr hf05 (by decide)).cell HXJ.out
      have hcy5 := (H2.out.fr hf05 (by decide)).cell HYJ.out
      have HF05 := Lib.hid hf05
      have HBD5 := Lib.hid hbd5
      clear hf05 hbd5 hf5 hcx4 hcy4
      refine hK _ _ ?_ ?_
      · intro q hq hwt; simp only [List.mem_cons, List.not_mem_nil, or_false] at hq; rcases hq with rfl | rfl
        · exact Bool.noConfusion (hwt.symm.trans (show _ = true from by kernel_rfl))
        · exact Bool.noConfusion (hwt.symm.trans (show _ = true from by kernel_rfl))
      clear hK K
      try simp only [Act.put, List.getElem_toArray, List.getElem_cons_zero, List.getElem_cons_succ, List.setIfInBounds_toArray, List.set_cons_zero, List.set_cons_succ]
      refine wpG_loud (i := 14) rfl rfl rfl (by kernel_rfl) (fun K hK => ?_)
      go_simp
      refine (and_any B0 p m A5' c5' a.1 h.2 st.c w5 (Nat.le_trans hB HF05.out.size) HBD5.out M3.out (S3'.out.1.wf (S2'.out.1.wf (S1'.out.1.wf (HS.out.1.wf HW.out)))) (S3'.out.1.lit (S2'.out.1.lit S1'.out.2)) (S3'.out.1.lit (S2'.out.1.lit (S1'.out.1.lit HS.out.2.2)))).mono ?_
      rintro e w6 ⟨A6', c6', rfl, hbd6, hf6⟩
      rw [E4.out] at hbd6 ⊢
      have hf06 := HF05.out.trans hf6
      have HO6 : Hid (OwnI w6 w.heap.size v4 (st.out ++ [o.2])) := HO5.out.fr hf6 (by decide)
      have hcx6 := (H1.out.fr hf06 (by decide)).cell HXJ.out
      have hcy6 := (H2.out.fr hf06 (by decide)).cell HYJ.out
      have HF06 := Lib.hid hf06
      have HBD6 := Lib.hid hbd6
      clear hf06 hbd6 hf6 hcx5 hcy5 HF05 HBD5 HO5
      refine hK _ _ ?_ ?_
      · intro q hq hwt; simp only [List.mem_cons, List.not_mem_nil, or_false] at hq; rcases hq with rfl | rfl
        · exact hcx6
        · exact hcy6
      clear hK K
      try simp only [Act.put, List.getElem_toArray, List.getElem_cons_zero, List.getElem_cons_succ, List.setIfInBounds_toArray, List.set_cons_zero, List.set_cons_succ]
      refine wpG_loud (i := 15) rfl rfl rfl (by kernel_rfl) (fun K hK => ?_)
      go_simp
      refine (or_any B0 p m A6' c6' b.1 a.2 b.2 w6 (Nat.le_trans hB HF06.out.size) HBD6.out M4.out (S4'.out.1.wf (S3'.out.1.wf (S2'.out.1.wf (S1'.out.1.wf (HS.out.1.wf HW.out))))) (S4'.out.1.lit S3'.out.2) S4'.out.2).mono ?_
      rintro e w7 ⟨A7', c7', rfl, hbd7, hf7⟩
      rw [E5.out] at hbd7 ⊢
      have hf07 := HF06.out.trans hf7
      have HO7 : Hid (OwnI w7 w.heap.size v4 (st.out ++ [o.2])) := HO6.out.fr hf7 (by decide)
      have hcx7 := (H1.out.fr hf07 (by decide)).cell HXJ.out
      have hcy7 := (H2.out.fr hf07 (by decide)).cell HYJ.out
      have HF07 := Lib.hid hf07
      have HBD7 := Lib.hid hbd7
      clear hf07 hbd7 hf7 hcx6 hcy6 HF06 HBD6 HO6
      refine hK _ _ ?_ ?_
      · intro q hq hwt; simp only [List.mem_cons, List.not_mem_nil, or_false] at hq; rcases hq with rfl | rfl
        · exact hcx7
        · exact hcy7
      clear hK K
      try simp only [Act.put, List.getElem_toArray, List.getElem_cons_zero, List.getElem_cons_succ, List.setIfInBounds_toArray, List.set_cons_zero, List.set_cons_succ]
      refine wpG_take (i := 16) (v := ?_) rfl (by kernel_rfl) rfl (by kernel_rfl) (by kernel_rfl) (fun _ _ _ h => h) (by rfl) ?_ (asks_none rfl _) ?_
      rotate_left
      · intro w _; go_simp; rfl
      simp only [Act.put, List.getElem_toArray, List.getElem_cons_zero, List.getElem_cons_succ, List.setIfInBounds_toArray, List.set_cons_zero, List.set_cons_succ]
      refine wpG_done (by kernel_rfl) ?_
      go_wp2_with fail
      go_roundw
      case rel =>
        refine ⟨j + 1, _, rfl, ?_⟩
        rw [hnext.out]
        exact ⟨rfl, by omega, by go_num, HO7.out, ⟨_, _, HBD7.out⟩, HF07.out⟩
      case measure => simp [intOf]; omega
    · obtain rfl : j = xs.length := by omega
      go_wp2
      go_ret2
      exact ⟨_, A', c', rfl, hown, hbd, hfr⟩
end Go.Proofs.Ytgmcajojigedaaa
namespace Go.Proofs.Ytgmcajojigedaaa
open Go.RowKit

/-- Are they two words? -/
def okW (x y : List Int) : Prop := 1 ≤ x.length ∧ x.length ≤ 8 ∧ y.length = x.length
instance (x y : List Int) : Decidable (okW x y) := inferInstanceAs (Decidable (_ ∧ _ ∧ _))
def okW1 (x : List Int) : Prop := 1 ≤ x.length ∧ x.length ≤ 8
instance (x : List Int) : Decidable (okW1 x) := inferInstanceAs (Decidable (_ ∧ _))
theorem okW_yes {x y : List Int} (h : okW x y) : wordsB [x, y] = true := by rw [wordsB_two]; exact decide_eq_true h
theorem okW_no {x y : List Int} (h : ¬ okW x y) : wordsB [x, y] = false := by rw [wordsB_two]; exact decide_eq_false h
theorem okW1_yes {x : List Int} (h : okW1 x) : wordsB [x] = true := by rw [wordsB_one]; exact decide_eq_true h
theorem okW1_no {x : List Int} (h : ¬ okW1 x) : wordsB [x] = false := by rw [wordsB_one]; exact decide_eq_false h

def addF (g : GS) (x y : List Int) : ChS := if okW x y then ⟨(sumF g x y 0).g, (sumF g x y 0).out⟩ else ⟨g, []⟩
def subF (g : GS) (x y : List Int) : ChS := if okW x y then ⟨(sumF g x (y.map notL) 1).g, (sumF g x (y.map notL) 1).out⟩ else ⟨g, []⟩
def negF (g : GS) (x : List Int) : ChS := if okW1 x then ⟨(sumF g (bitsI x.length 0) (x.map notL) 1).g, (sumF g (bitsI x.length 0) (x.map notL) 1).out⟩ else ⟨g, []⟩
def chooseF2 (g : GS) (c : Int) (x y : List Int) : ChS := if okW x y then chooseF g c x y else ⟨g, []⟩

section
variable {B0 p m : Nat} {A A1 A2 : Option Addr} {c c1 c2 : Nat} {g : GS} {xs ys : List Int} {w : World}
theorem below_alloc (w : World) (o : Obj) : Below w.heap.size w (w.alloc o) := (Below.refl _ _).alloc (Nat.le_refl _) _

set_option maxHeartbeats 1000000 in
theorem add_any (hB : B0 ≤ w.heap.size) (hb : Bd B0 w p m A c g) (hw : GWf g) (hn : g.nodes + 81 ≤ 65536) (hxl : areLit g xs) (hyl : areLit g ys) (h1 : SlI w B0 A1 c1 xs) (h2 : SlI w B0 A2 c2 ys) :
    Calls Try.prog 40 #[.pointer (some ⟨p, 0, none⟩), .slice A1 xs.length c1, .slice A2 ys.length c2] w (WordRet B0 p m w (addF g xs ys).g (addF g xs ys).out) := by
  have HB := Lib.hid hb
  have H1 := Lib.hid h1
  have H2 := Lib.hid h2
  by_cases h : okW xs ys
  · have hok := okW_yes h
    have e : Hid (addF g xs ys = ⟨(sumF g xs ys 0).g, (sumF g xs ys 0).out⟩) := if_pos h
    have HL := Lib.hid h
    have HXL := Lib.hid hxl
    have HYL := Lib.hid hyl
    have HW := Lib.hid hw
    clear hb h1 h2 h hxl hyl hw
    go_enter Try.func40, Try.ntmps40
    go_wp2_with (first
      | (go_at_call 102; refine (words_any [xs, ys] _ 2 B0 _ (slw_two H1.out H2.out) (by simp) (by simp)).mono ?_; rintro e w' ⟨rfl, rfl⟩)
      | (go_at_call 104; refine (sum_any B0 p m A A1 A2 c c1 c2 g 0 xs ys _ (by simp; omega) (HB.out.below (below_alloc _ _)) HW.out (by have := HL.out.2.2; omega) (by have := HL.out.2.1; omega) (by have := HL.out.2.1; omega) (lit_zero g) HXL.out HYL.out (H1.out.alloc _) (H2.out.alloc _)).mono ?_; rintro e w2 ⟨v, A', c', rfl, ho, hbd, hf⟩; have HO := Lib.hid ho; have HBD := Lib.hid hbd; have HF := Lib.hid hf; clear ho hbd hf))
    go_ret
    refine ⟨_, A', c', rfl, ?_, ?_, (Fr.of_below (below_alloc _ _)).trans HF.out⟩
    · rw [e.out]; exact HO.out.mono (by simp)
    · rw [e.out]; exact HBD.out
  · have hok := okW_no h
    have e : Hid (addF g xs ys = ⟨g, []⟩) := if_neg h
    clear hb h1 h2 h hxl hyl hw
    go_enter Try.func40, Try.ntmps40
    go_wp2_with (go_at_call 102; refine (words_any [xs, ys] _ 2 B0 _ (slw_two H1.out H2.out) (by simp) (by simp)).mono ?_; rintro e w' ⟨rfl, rfl⟩)
    go_ret
    refine ⟨_, A, c, rfl, ?_, ?_, Fr.of_below (below_alloc _ _)⟩
    · rw [e.out]; exact OwnOf.nil _ _
    · rw [e.out]; exact HB.out.below (below_alloc _ _)

set_option maxHeartbeats 1000000 in
theorem sub_any (hB : B0 ≤ w.heap.size) (hb : Bd B0 w p m A c g) (hw : GWf g) (hn : g.nodes + 81 ≤ 65536) (hxl : areLit g xs) (hyl : areLit g ys) (h1 : SlI w B0 A1 c1 xs) (h2 : SlI w B0 A2 c2 ys) :
    Calls Try.prog 41 #[.pointer (some ⟨p, 0, none⟩), .slice A1 xs.length c1, .slice A2 ys.length c2] w (WordRet B0 p m w (subF g xs ys).g (subF g xs ys).out) := by
  have HB := Lib.hid hb
  have H1 := Lib.hid h1
  have H2 := Lib.hid h2
  by_cases h : okW xs ys
  · have hok := okW_yes h
    have e : Hid (subF g xs ys = ⟨(sumF g xs (ys.map notL) 1).g, (sumF g xs (ys.map notL) 1).out⟩) := if_pos h
    have HL := Lib.hid h
    have HXL := Lib.hid hxl
    have HYL := Lib.hid hyl
    have HW := Lib.hid hw
    obtain ⟨zs, hz⟩ : ∃ zs, ys.map notL = zs := ⟨_, rfl⟩
    have hzl : areLit g zs := by rw [← hz]; exact hyl.map_notL
    have hln : Hid (zs.length = ys.length) := by show _ = _; rw [← hz]; simp
    have HZ := Lib.hid hz
    have HZL := Lib.hid hzl
    rw [hz] at e
    clear hz hzl
    clear hb h1 h2 h hxl hyl hw
    go_enter Try.func41, Try.ntmps41
    go_wp2_with (first
      | (go_at_call 102; refine (words_any [xs, ys] _ 2 B0 _ (slw_two H1.out H2.out) (by simp) (by simp)).mono ?_; rintro e w' ⟨rfl, rfl⟩)
      | (go_at_call 105; refine (inverse_any ys A2 c2 B0 _ (H2.out.alloc _) (by have := HL.out.2; omega) (HYL.out.bound (by omega))).mono ?_; rintro e w1 ⟨v1, rfl, ho1, hb1⟩; rw [HZ.out] at ho1; obtain ⟨A3, c3, rfl, hs3⟩ := ho1.sl B0; have HS3 := Lib.hid hs3; have HB1 : Hid (Below w.heap.size w w1) := (below_alloc w _).trans (hb1.mono (by simp)); clear ho1 hb1 hs3)
      | (go_at_call 104; refine (sum_any B0 p m A A1 A3 c c1 c3 g 1 xs zs w1 (Nat.le_trans hB HB1.out.size) (HB.out.below HB1.out) HW.out (by rw [hln.out]; have := HL.out.2.2; omega) (by have := HL.out.2.1; omega) (by have := HL.out.2.1; omega) (lit_one g) HXL.out HZL.out (H1.out.below HB1.out) HS3.out).mono ?_; rintro e w2 ⟨v, A', c', rfl, ho, hbd, hf⟩; have HO := Lib.hid ho; have HBD := Lib.hid hbd; have HF := Lib.hid hf; clear ho hbd hf))
    go_ret
    refine ⟨_, A', c', rfl, ?_, ?_, (Fr.of_below HB1.out).trans HF.out⟩
    · rw [e.out]; exact HO.out.mono HB1.out.size
    · rw [e.out]; exact HBD.out
  · have hok := okW_no h
    have e : Hid (subF g xs ys = ⟨g, []⟩) := if_neg h
    clear hb h1 h2 h hxl hyl hw
    go_enter Try.func41, Try.ntmps41
    go_wp2_with (go_at_call 102; refine (words_any [xs, ys] _ 2 B0 _ (slw_two H1.out H2.out) (by simp) (by simp)).mono ?_; rintro e w' ⟨rfl, rfl⟩)
    go_ret
    refine ⟨_, A, c, rfl, ?_, ?_, Fr.of_below (below_alloc _ _)⟩
    · rw [e.out]; exact OwnOf.nil _ _
    · rw [e.out]; exact HB.out.below (below_alloc _ _)

set_option maxHeartbeats 1000000 in
theorem neg_any (hB : B0 ≤ w.heap.size) (hb : Bd B0 w p m A c g) (hw : GWf g) (hn : g.nodes + 81 ≤ 65536) (hxl : areLit g xs) (h1 : SlI w B0 A1 c1 xs) :
    Calls Try.prog 46 #[.pointer (some ⟨p, 0, none⟩), .slice A1 xs.length c1] w (WordRet B0 p m w (negF g xs).g (negF g xs).out) := by
  have HB := Lib.hid hb
  have H1 := Lib.hid h1
  by_cases h : okW1 xs
  · have hok := okW1_yes h
    have e : Hid (negF g xs = ⟨(sumF g (bitsI xs.length 0) (xs.map notL) 1).g, (sumF g (bitsI xs.length 0) (xs.map notL) 1).out⟩) := if_pos h
    have HL := Lib.hid h
    have HXL := Lib.hid hxl
    have HW := Lib.hid hw
    obtain ⟨zs, hz⟩ : ∃ zs, xs.map notL = zs := ⟨_, rfl⟩
    obtain ⟨us, hu⟩ : ∃ us, bitsI xs.length 0 = us := ⟨_, rfl⟩
    have hzl : areLit g zs := by rw [← hz]; exact hxl.map_notL
    have hul : areLit g us := by rw [← hu]; exact areLit.bits _ _
    have hln : Hid (zs.length = xs.length ∧ us.length = xs.length) := by show _ ∧ _; rw [← hz, ← hu]; simp [bitsI]
    have HZ := Lib.hid hz
    have HZL := Lib.hid hzl
    have HU := Lib.hid hu
    have HUL := Lib.hid hul
    rw [hz, hu] at e
    clear hz hzl hu hul
    clear hb h1 h hxl hw
    go_enter Try.func46, Try.ntmps46
    go_wp2_with (first
      | (go_at_call 102; refine (words_any [xs] _ 1 B0 _ (slw_one H1.out) (by simp) (by simp)).mono ?_; rintro e w' ⟨rfl, rfl⟩)
      | (go_at_call 94; refine (constant_any xs.length 0 _ (by have := HL.out.2; omega)).mono ?_; rintro e w0 ⟨v0, rfl, ho0, hb0⟩; rw [HU.out] at ho0; obtain ⟨A4, c4, rfl, hs4⟩ := ho0.sl B0; have HS4 := Lib.hid hs4; have HB0 : Hid (Below w.heap.size w w0) := (below_alloc w _).trans (hb0.mono (by simp)); clear ho0 hb0 hs4)
      | (go_at_call 105; refine (inverse_any xs A1 c1 B0 w0 (H1.out.below HB0.out) (by have := HL.out.2; omega) (HXL.out.bound (by omega))).mono ?_; rintro e w1 ⟨v1, rfl, ho1, hb1⟩; rw [HZ.out] at ho1; obtain ⟨A3, c3, rfl, hs3⟩ := ho1.sl B0; have HS3 := Lib.hid hs3; have HS5 := Lib.hid (HS4.out.below hb1); have HB1 : Hid (Below w.heap.size w w1) := HB0.out.trans (hb1.mono HB0.out.size); clear ho1 hb1 hs3 HS4 HB0)
      | (go_at_call 104; refine (sum_any B0 p m A A4 A3 c c4 c3 g 1 us zs w1 (Nat.le_trans hB HB1.out.size) (HB.out.below HB1.out) HW.out (by rw [hln.out.1, hln.out.2]; exact Nat.le_refl _) (by rw [hln.out.2]; have := HL.out.2; omega) (by rw [hln.out.2]; have := HL.out.2; omega) (lit_one g) HUL.out HZL.out HS5.out HS3.out).mono ?_; rintro e w2 ⟨v, A', c', rfl, ho, hbd, hf⟩; have HO := Lib.hid ho; have HBD := Lib.hid hbd; have HF := Lib.hid hf; clear ho hbd hf))
    go_ret
    refine ⟨_, A', c', rfl, ?_, ?_, (Fr.of_below HB1.out).trans HF.out⟩
    · rw [e.out]; exact HO.out.mono HB1.out.size
    · rw [e.out]; exact HBD.out
  · have hok := okW1_no h
    have e : Hid (negF g xs = ⟨g, []⟩) := if_neg h
    clear hb h1 h hxl hw
    go_enter Try.func46, Try.ntmps46
    go_wp2_with (go_at_call 102; refine (words_any [xs] _ 1 B0 _ (slw_one H1.out) (by simp) (by simp)).mono ?_; rintro e w' ⟨rfl, rfl⟩)
    go_ret
    refine ⟨_, A, c, rfl, ?_, ?_, Fr.of_below (below_alloc _ _)⟩
    · rw [e.out]; exact OwnOf.nil _ _
    · rw [e.out]; exact HB.out.below (below_alloc _ _)

set_option maxHeartbeats 1000000 in
theorem Choose_any {k : Int} (hB : B0 ≤ w.heap.size) (hb : Bd B0 w p m A c g) (hw : GWf g) (hn : g.nodes + 81 ≤ 65536) (hk : isLit g k) (hxl : areLit g xs) (hyl : areLit g ys) (h1 : SlI w B0 A1 c1 xs) (h2 : SlI w B0 A2 c2 ys) :
    Calls Try.prog 43 #[.pointer (some ⟨p, 0, none⟩), .int .i64 k, .slice A1 xs.length c1, .slice A2 ys.length c2] w (WordRet B0 p m w (chooseF2 g k xs ys).g (chooseF2 g k xs ys).out) := by
  have HB := Lib.hid hb
  have H1 := Lib.hid h1
  have H2 := Lib.hid h2
  by_cases h : okW xs ys
  · have hok := okW_yes h
    have e : Hid (chooseF2 g k xs ys = chooseF g k xs ys) := if_pos h
    have HL := Lib.hid h
    have HXL := Lib.hid hxl
    have HYL := Lib.hid hyl
    have HK := Lib.hid hk
    have HW := Lib.hid hw
    clear hb h1 h2 h hxl hyl hw hk
    go_enter Try.func43, Try.ntmps43
    go_wp2_with (first
      | (go_at_call 102; refine (words_any [xs, ys] _ 2 B0 _ (slw_two H1.out H2.out) (by simp) (by simp)).mono ?_; rintro e w' ⟨rfl, rfl⟩)
      | (go_at_call 103; refine (choose_any B0 p m A A1 A2 c c1 c2 g k xs ys _ (by simp; omega) (HB.out.below (below_alloc _ _)) HW.out (by have := HL.out.2.2; omega) (by have := HL.out.2.1; omega) (by have := HL.out.2.1; omega) HK.out HXL.out HYL.out (H1.out.alloc _) (H2.out.alloc _)).mono ?_; rintro e w2 ⟨v, A', c', rfl, ho, hbd, hf⟩; have HO := Lib.hid ho; have HBD := Lib.hid hbd; have HF := Lib.hid hf; clear ho hbd hf))
    go_ret
    refine ⟨_, A', c', rfl, ?_, ?_, (Fr.of_below (below_alloc _ _)).trans HF.out⟩
    · rw [e.out]; exact HO.out.mono (by simp)
    · rw [e.out]; exact HBD.out
  · have hok := okW_no h
    have e : Hid (chooseF2 g k xs ys = ⟨g, []⟩) := if_neg h
    clear hb h1 h2 h hxl hyl hw hk
    go_enter Try.func43, Try.ntmps43
    go_wp2_with (go_at_call 102; refine (words_any [xs, ys] _ 2 B0 _ (slw_two H1.out H2.out) (by simp) (by simp)).mono ?_; rintro e w' ⟨rfl, rfl⟩)
    go_ret
    refine ⟨_, A, c, rfl, ?_, ?_, Fr.of_below (below_alloc _ _)⟩
    · rw [e.out]; exact OwnOf.nil _ _
    · rw [e.out]; exact HB.out.below (below_alloc _ _)
end
end Go.Proofs.Ytgmcajojigedaaa
