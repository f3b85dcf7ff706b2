/- Words of literals: the steps of Divide, each with what it does to the builder. -/
import Derived.Test.YtgmcajojigedaaaFb
set_option linter.unusedSimpArgs false
set_option linter.unusedVariables false
namespace Go.Proofs.Ytgmcajojigedaaa
open Go.RowKit

/-- The builder at a point of a walk. -/
structure Env (B0 p m : Nat) (g0 : GS) (k : Nat) (w : World) (g : GS) : Prop where
  hB : B0 ≤ w.heap.size
  bd : ∃ A c, Bd B0 w p m A c g
  wf : GWf g
  grew : Grew k g0 g
/-- A word was made. -/
def WStep (B0 p m : Nat) (g0 : GS) (k d : Nat) (w : World) (g g' : GS) (out : List Int) (n : Nat) (e : Ending) (w' : World) : Prop :=
  ∃ A c, e = .returned (.slice A n c) ∧ OwnI w' w.heap.size (.slice A n c) out ∧ SlI w' B0 A c out ∧ out.length = n ∧ areLit g' out ∧ Grew d g g' ∧ Env B0 p m g0 (k + d) w' g' ∧ Fr B0 [116, 123] [m] w w'
theorem negF_spec {g : GS} {x : List Int} (h : okW1 x) (hx : areLit g x) (hn : g.nodes + 81 ≤ 65536) :
    Grew 81 g (negF g x).g ∧ areLit (negF g x).g (negF g x).out ∧ (negF g x).out.length = x.length := by
  obtain ⟨h1, h2, _, h4⟩ := sumF_spec (g := g) (x := bitsI x.length 0) (y := x.map notL) (areLit.bits _ _) hx.map_notL (lit_one g) (by rw [bitsI_length]; have := h.2; omega) hn
  rw [show negF g x = ⟨(sumF g (bitsI x.length 0) (x.map notL) 1).g, (sumF g (bitsI x.length 0) (x.map notL) 1).out⟩ from if_pos h]
  exact ⟨h1, h2, by rw [h4, bitsI_length]⟩
theorem chooseF_spec {g : GS} {c : Int} {x y : List Int} (hc : isLit g c) (hx : areLit g x) (hy : areLit g y) (h9 : x.length ≤ 9) (hn : g.nodes + 27 ≤ 65536) :
    Grew 27 g (chooseF g c x y).g ∧ areLit (chooseF g c x y).g (chooseF g c x y).out ∧ (chooseF g c x y).out.length = x.length := by
  obtain ⟨h1, h2⟩ := chooseK_spec hx hy hc x.length (by omega)
  exact ⟨h1.mono (by omega), h2, chooseK_length _ _ _ _ _⟩
theorem equalF_spec {g : GS} {x y : List Int} (h : okW x y) (hx : areLit g x) (hy : areLit g y) (hn : g.nodes + 81 ≤ 65536) :
    Grew 36 g (equalF g x y).g ∧ isLit (equalF g x y).g (equalF g x y).x := by
  rw [show equalF g x y = eqK g x y x.length from if_pos h]
  obtain ⟨h1, h2⟩ := eqK_spec hx hy x.length (by have := h.2.1; omega)
  exact ⟨h1.mono (by have := h.2.1; omega), h2⟩

section
variable {B0 p m k : Nat} {A A1 A2 : Option Addr} {c c1 c2 : Nat} {g0 g : GS} {x : Int} {xs ys : List Int} {w : World} {n : Nat}
theorem env_neg (E : Env B0 p m g0 k w g) (hk : g0.nodes + k + 81 ≤ 65536) (hl : xs.length = n) (h1 : 1 ≤ n) (h8 : n ≤ 8) (hx : areLit g xs) (hs : SlI w B0 A c xs) :
    Calls Try.prog 46 #[.pointer (some ⟨p, 0, none⟩), .slice A n c] w (WStep B0 p m g0 k 81 w g (negF g xs).g (negF g xs).out n) := by
  obtain ⟨A', c', hb⟩ := E.bd
  have hn := E.grew.nodes
  refine (neg_n E.hB hb E.wf (by omega) hl hx hs).mono ?_
  rintro e w' ⟨v, A3, c3, rfl, ho, hbd, hf⟩
  obtain ⟨s1, s2, s3⟩ := negF_spec (g := g) (x := xs) ⟨by omega, by omega⟩ hx (by omega)
  obtain ⟨A4, c4, rfl, hs4⟩ := ho.sl B0
  rw [s3, hl] at ho
  refine ⟨A4, c4, by rw [s3, hl], ho, hs4, by rw [s3, hl], s2, s1, ⟨Nat.le_trans E.hB hf.size, ⟨A3, c3, hbd⟩, s1.wf E.wf, E.grew.trans s1⟩, hf⟩
theorem env_choose (E : Env B0 p m g0 k w g) (hk : g0.nodes + k + 81 ≤ 65536) (hl : xs.length = n) (hl2 : ys.length = n) (h9 : n ≤ 9) (hc : isLit g x) (hx : areLit g xs) (hy : areLit g ys) (hs : SlI w B0 A1 c1 xs) (hs2 : SlI w B0 A2 c2 ys) :
    Calls Try.prog 103 #[.pointer (some ⟨p, 0, none⟩), .int .i64 x, .slice A1 n c1, .slice A2 n c2] w (WStep B0 p m g0 k 27 w g (chooseF g x xs ys).g (chooseF g x xs ys).out n) := by
  obtain ⟨A', c', hb⟩ := E.bd
  have hn := E.grew.nodes
  refine (choose_n E.hB hb E.wf hl hl2 (Nat.le_refl _) h9 (by omega) hc hx hy hs hs2).mono ?_
  rintro e w' ⟨v, A3, c3, rfl, ho, hbd, hf⟩
  obtain ⟨s1, s2, s3⟩ := chooseF_spec (g := g) (c := x) (x := xs) (y := ys) hc hx hy (by omega) (by omega)
  obtain ⟨A4, c4, rfl, hs4⟩ := ho.sl B0
  rw [s3, hl] at ho
  refine ⟨A4, c4, by rw [s3, hl], ho, hs4, by rw [s3, hl], s2, s1, ⟨Nat.le_trans E.hB hf.size, ⟨A3, c3, hbd⟩, s1.wf E.wf, E.grew.trans s1⟩, hf⟩
def SStep (B0 p m : Nat) (g0 : GS) (k : Nat) (w : World) (g : GS) (s : SumS) (n : Nat) (e : Ending) (w' : World) : Prop :=
  ∃ A c, e = .returned (.tuple #[.slice A n c, .int .i64 s.c]) ∧ OwnI w' w.heap.size (.slice A n c) s.out ∧ SlI w' B0 A c s.out ∧ s.out.length = n ∧ areLit s.g s.out ∧ isLit s.g s.c ∧ Grew 81 g s.g ∧ Env B0 p m g0 (k + 81) w' s.g ∧ Fr B0 [116, 123] [m] w w'
theorem env_sum (E : Env B0 p m g0 k w g) (hk : g0.nodes + k + 81 ≤ 65536) (hl : xs.length = n) (hl2 : ys.length = n) (h9 : n ≤ 9) (hc : isLit g x) (hx : areLit g xs) (hy : areLit g ys) (hs : SlI w B0 A1 c1 xs) (hs2 : SlI w B0 A2 c2 ys) :
    Calls Try.prog 104 #[.pointer (some ⟨p, 0, none⟩), .slice A1 n c1, .slice A2 n c2, .int .i64 x] w (SStep B0 p m g0 k w g (sumF g xs ys x) n) := by
  obtain ⟨A', c', hb⟩ := E.bd
  have hn := E.grew.nodes
  refine (sum_n E.hB hb E.wf hl hl2 (Nat.le_refl _) h9 (by omega) hc hx hy hs hs2).mono ?_
  rintro e w' ⟨v, A3, c3, rfl, ho, hbd, hf⟩
  obtain ⟨s1, s2, s3, s4⟩ := sumF_spec (g := g) (c := x) (x := xs) (y := ys) hx hy hc (by omega) (by omega)
  obtain ⟨A4, c4, rfl, hs4⟩ := ho.sl B0
  rw [s4, hl] at ho
  refine ⟨A4, c4, by rw [s4, hl], ho, hs4, by rw [s4, hl], s2, s3, s1, ⟨Nat.le_trans E.hB hf.size, ⟨A3, c3, hbd⟩, s1.wf E.wf, E.grew.trans s1⟩, hf⟩
def LStep (B0 p m : Nat) (g0 : GS) (k d : Nat) (w : World) (g g' : GS) (x : Int) (e : Ending) (w' : World) : Prop :=
  e = .returned (.int .i64 x) ∧ isLit g' x ∧ Grew d g g' ∧ Env B0 p m g0 (k + d) w' g' ∧ Fr B0 [116, 123] [m] w w'
theorem env_equal (E : Env B0 p m g0 k w g) (hk : g0.nodes + k + 81 ≤ 65536) (hl : xs.length = n) (hl2 : ys.length = n) (h1 : 1 ≤ n) (h8 : n ≤ 8) (hx : areLit g xs) (hy : areLit g ys) (hs : SlI w B0 A1 c1 xs) (hs2 : SlI w B0 A2 c2 ys) :
    Calls Try.prog 44 #[.pointer (some ⟨p, 0, none⟩), .slice A1 n c1, .slice A2 n c2] w (LStep B0 p m g0 k 36 w g (equalF g xs ys).g (equalF g xs ys).x) := by
  obtain ⟨A', c', hb⟩ := E.bd
  have hn := E.grew.nodes
  refine (equal_n E.hB hb E.wf (by omega) hl hl2 hx hy hs hs2).mono ?_
  rintro e w' ⟨A3, c3, rfl, hbd, hf⟩
  obtain ⟨s1, s2⟩ := equalF_spec (g := g) (x := xs) (y := ys) ⟨by omega, by omega, by omega⟩ hx hy (by omega)
  exact ⟨rfl, s2, s1, ⟨Nat.le_trans E.hB hf.size, ⟨A3, c3, hbd⟩, s1.wf E.wf, E.grew.trans s1⟩, hf⟩
theorem env_xor {y : Int} (E : Env B0 p m g0 k w g) (hk : g0.nodes + k + 81 ≤ 65536) (hx : isLit g x) (hy : isLit g y) :
    Calls Try.prog 106 #[.pointer (some ⟨p, 0, none⟩), .int .i64 x, .int .i64 y] w (LStep B0 p m g0 k 3 w g (xorF g x y).1 (xorF g x y).2) := by
  obtain ⟨A', c', hb⟩ := E.bd
  have hn := E.grew.nodes
  refine (xor_any B0 p m A' c' g x y w E.hB hb (by omega) E.wf hx hy).mono ?_
  rintro e w' ⟨A3, c3, rfl, hbd, hf⟩
  obtain ⟨s1, s2⟩ := xorF_spec (g := g) hx hy (by omega)
  exact ⟨rfl, s2, s1, ⟨Nat.le_trans E.hB hf.size, ⟨A3, c3, hbd⟩, s1.wf E.wf, E.grew.trans s1⟩, hf⟩
theorem Env.below {w' : World} (E : Env B0 p m g0 k w g) (h : Below w.heap.size w w') : Env B0 p m g0 k w' g :=
  ⟨Nat.le_trans E.hB h.size, let ⟨A, c, hb⟩ := E.bd; ⟨A, c, hb.below h⟩, E.wf, E.grew⟩
theorem Env.fr {w' : World} {ts ms : List Nat} (E : Env B0 p m g0 k w g) (h : Fr B0 ts ms w w') (h1 : 116 ∉ ts) (h2 : 123 ∉ ts) (h3 : m ∉ ms) : Env B0 p m g0 k w' g :=
  ⟨Nat.le_trans E.hB h.size, let ⟨A, c, hb⟩ := E.bd; ⟨A, c, hb.fr h h1 h2 h3⟩, E.wf, E.grew⟩
end

section
variable {P : Program} {α : Type} {F : α → Value} {e B B0 : Nat} {w0 : World} {v : Value} {xs ys : List α} {A : Option Addr} {c n : Nat}
/-- The cells of a list, as append's source. -/
theorem SlOf.news (h : SlOf F e w0 B0 A c ys) : 0 < ys.length → ∃ ad, A = some ad ∧ ∀ j u, (ys.map F)[j]? = some u → w0.cell? (ad.add j) = some u := fun h0 => by
  obtain ⟨b, o, e1, _, hcc⟩ := h.2.2 h0
  refine ⟨_, e1, fun j u hu => ?_⟩
  rw [Addr.add_lit]
  simp only [List.getElem?_map, Option.map_eq_some_iff] at hu
  obtain ⟨t, ht, rfl⟩ := hu
  exact hcc j t ht
theorem OwnOf.of_app {v' : Value} {w' : World} (h : w'.ownsRow B e 1 v' (xs.length + ys.length) (xs.map F ++ ys.map F)) : OwnOf F e w' B v' (xs ++ ys) := by
  unfold OwnOf; rw [List.length_append, List.map_append]; exact h
/-- 'out = append(out, src...)', both of elements of one cell; outside a drawn region. -/
theorem appAll (hF : ∀ x, (F x).oneCell' = true) (t bytes : Nat) {z : Value} (ht : P.underlying t = some (.slice e))
    (hinfo : (P.info? e).map (fun i => (i.zero, i.size, i.bytes)) = some (some z, 1, bytes)) (hzs : z.cells.size = 1)
    {ops : Array Oper} {rest : List Oper} {o : Oper} {a : Act} {Q : Exit → Act → World → Prop} (hg : o.guard = none) (s x : Operand)
    (hop : o.op = .call { callee := .builtin .append, args := #[s, x], argTypes := #[t, t] })
    (hown : OwnOf F e w0 B v xs) (hsrc : SlOf F e w0 B0 A c ys) (hn : ys.length = n) (hs : a.eval s = v) (hx : a.eval x = .slice A n c)
    (h63 : xs.length + n ≤ 9223372036854775807) (hb : (xs.length + n) * bytes ≤ 140737488355328) (hB : B ≤ w0.heap.size)
    (hK : ∀ v' w', OwnOf F e w' B v' (xs ++ ys) → w0.grownBy w' v.ownBlock → wpList P ops Q rest (a.put o.dst v') w') :
    wpList P ops Q (o :: rest) a w0 := by
  subst hn
  refine wpList_append_src _ hg s x t hop B e z 1 bytes ht hinfo hzs (by decide) v xs.length (xs.map F) hown hs A ys.length c (ys.map F) hx (by simp) hsrc.news (fun u hu => ?_) h63 hb hB fun v' w' h1 h2 => hK v' w' (OwnOf.of_app h1) h2
  obtain ⟨t, _, rfl⟩ := List.mem_map.1 hu
  exact hF t
/-- The same, as one operation of a drawn region. -/
theorem wp_appAll (hF : ∀ x, (F x).oneCell' = true) (t bytes : Nat) {z : Value} (ht : P.underlying t = some (.slice e))
    (hinfo : (P.info? e).map (fun i => (i.zero, i.size, i.bytes)) = some (some z, 1, bytes)) (hzs : z.cells.size = 1)
    {o : Oper} {a : Act} {K : Act → World → Prop} {Q : Exit → Act → World → Prop} (s x : Operand)
    (hop : o.op = .call { callee := .builtin .append, args := #[s, x], argTypes := #[t, t] })
    (hown : OwnOf F e w0 B v xs) (hsrc : SlOf F e w0 B0 A c ys) (hn : ys.length = n) (hs : a.eval s = v) (hx : a.eval x = .slice A n c)
    (h63 : xs.length + n ≤ 9223372036854775807) (hb : (xs.length + n) * bytes ≤ 140737488355328) (hB : B ≤ w0.heap.size)
    (hK : ∀ v' w', OwnOf F e w' B v' (xs ++ ys) → w0.grownBy w' v.ownBlock → K (a.put o.dst v') w') : o.wp P a w0 K Q := by
  subst hn
  refine wp_append_src w0 s x t hop B e z 1 bytes ht hinfo hzs (by decide) v xs.length (xs.map F) hown hs A ys.length c (ys.map F) hx (by simp) hsrc.news (fun u hu => ?_) h63 hb hB fun v' w' h1 h2 => hK v' w' (OwnOf.of_app h1) h2
  obtain ⟨t, _, rfl⟩ := List.mem_map.1 hu
  exact hF t
theorem SlOf.take {m : Nat} (h : SlOf F e w0 B0 A c ys) (hm : m ≤ ys.length) : SlOf F e w0 B0 A c (ys.take m) := by
  have e1 : (ys.take m).length = m := by rw [List.length_take]; omega
  refine ⟨by rw [e1]; have := h.1; omega, h.2.1, fun h0 => ?_⟩
  obtain ⟨b, o, h1, h2, h3⟩ := h.2.2 (by omega)
  refine ⟨b, o, h1, h2, fun k x hk => h3 k x ?_⟩
  rw [List.getElem?_take] at hk
  split at hk
  · exact hk
  · cases hk
end

structure DivS where
  g : GS
  q : List Int
  r : List Int
def divStep (ax wide : List Int) (n k : Nat) (s : DivS) : DivS :=
  let rest := ax.getD k 0 :: s.r.take n
  let u := sumF s.g rest (wide.map notL) 1
  let ch := chooseF u.g u.c u.out rest
  ⟨ch.g, s.q.set k u.c, ch.out⟩
def divK (g : GS) (ax wide : List Int) (n : Nat) : Nat → DivS
  | 0 => ⟨g, bitsI n 0, bitsI (n + 1) 0⟩
  | i + 1 => divStep ax wide n (n - 1 - i) (divK g ax wide n i)
theorem divStep_spec {ax wide : List Int} {n k : Nat} {s : DivS} (hax : areLit s.g ax) (hwd : areLit s.g wide) (h8 : n ≤ 8) (hq : areLit s.g s.q) (hr : areLit s.g s.r) (hql : s.q.length = n) (hrl : s.r.length = n + 1) (hn : s.g.nodes + 108 ≤ 65536) :
    Grew 108 s.g (divStep ax wide n k s).g ∧ areLit (divStep ax wide n k s).g (divStep ax wide n k s).q ∧ areLit (divStep ax wide n k s).g (divStep ax wide n k s).r ∧ (divStep ax wide n k s).q.length = n ∧ (divStep ax wide n k s).r.length = n + 1 := by
  have hrest : areLit s.g (ax.getD k 0 :: s.r.take n) := fun z hz => by
    rcases List.mem_cons.1 hz with h | h
    · rw [h]; exact hax.getD k
    · exact hr z (List.mem_of_mem_take h)
  have hl : (ax.getD k 0 :: s.r.take n).length = n + 1 := by simp [List.length_take]; omega
  obtain ⟨s1, s2, s3, s4⟩ := sumF_spec (g := s.g) (x := ax.getD k 0 :: s.r.take n) (y := wide.map notL) hrest hwd.map_notL (lit_one _) (by omega) (by omega)
  have n1 := s1.nodes
  obtain ⟨c1, c2, c3⟩ := chooseF_spec (g := (sumF s.g (ax.getD k 0 :: s.r.take n) (wide.map notL) 1).g) (c := (sumF s.g (ax.getD k 0 :: s.r.take n) (wide.map notL) 1).c) (x := (sumF s.g (ax.getD k 0 :: s.r.take n) (wide.map notL) 1).out) (y := ax.getD k 0 :: s.r.take n) s3 s2 (s1.lits hrest) (by omega) (by omega)
  refine ⟨s1.trans c1, c1.lits ((s1.lits hq).set s3), c2, by simpa [divStep] using hql, ?_⟩
  show (chooseF _ _ _ _).out.length = _
  rw [c3, s4, hl]
theorem divK_spec {g : GS} {ax wide : List Int} {n : Nat} (hax : areLit g ax) (hwd : areLit g wide) (h8 : n ≤ 8) : ∀ i, g.nodes + 108 * i ≤ 65536 →
    Grew (108 * i) g (divK g ax wide n i).g ∧ areLit (divK g ax wide n i).g (divK g ax wide n i).q ∧ areLit (divK g ax wide n i).g (divK g ax wide n i).r ∧ (divK g ax wide n i).q.length = n ∧ (divK g ax wide n i).r.length = n + 1
  | 0, _ => ⟨Grew.refl _ _, areLit.bits _ _, areLit.bits _ _, bitsI_length _ _, bitsI_length _ _⟩
  | i + 1, hn => by
    obtain ⟨h1, h2, h3, h4, h5⟩ := divK_spec hax hwd h8 i (by omega)
    have n1 := h1.nodes
    obtain ⟨k1, k2, k3, k4, k5⟩ := divStep_spec (k := n - 1 - i) (s := divK g ax wide n i) (h1.lits hax) (h1.lits hwd) h8 h2 h3 h4 h5 (by omega)
    exact ⟨h1.trans k1, k2, k3, k4, k5⟩
theorem OwnOf.setCell_ne {α : Type} {F : α → Value} {e : Nat} {w : World} {B : Nat} {v : Value} {xs : List α} (h : OwnOf F e w B v xs) {Q j : Nat} (hq : Q < B) (u : Value) : OwnOf F e (w.setCell ⟨Q, j, none⟩ u) B v xs := by
  refine ⟨h.1, h.2.imp id (fun ⟨g, cap, cur, e1, e2, e3, rest⟩ => ⟨g, cap, cur, e1, e2, ?_, rest⟩)⟩
  rw [Below.heap_setCell _ _ _ _ (fun e4 => by have : g = Q := e4; omega)]
  exact e3
theorem Env.setCell_far {B0 p m k : Nat} {g0 g : GS} {w : World} (E : Env B0 p m g0 k w g) {q : Addr} {cs : Array Value} {t : Nat} {f : Nat × Nat} (hq : w.heap[q.block]? = some (.cells cs t f)) (h1 : t ≠ 116) (h2 : t ≠ 123) (u : Value) : Env B0 p m g0 k (w.setCell q u) g :=
  ⟨by have := E.hB; simp [World.setCell]; exact this, let ⟨A, c, hb⟩ := E.bd; ⟨A, c, hb.setCell_far hq h1 h2 u⟩, E.wf, E.grew⟩
/-- The first part: the signs, the magnitudes. -/
structure DivA where
  g : GS
  ax : List Int
  ay : List Int
def divA (g : GS) (xs ys : List Int) : DivA :=
  let n1 := negF g xs
  let c1 := chooseF n1.g (xs.getD (xs.length - 1) 0) n1.out xs
  let n2 := negF c1.g ys
  let c2 := chooseF n2.g (ys.getD (xs.length - 1) 0) n2.out ys
  ⟨c2.g, c1.out, c2.out⟩
/-- The last part: the signs of the results, and division by zero. -/
def divZ (s : DivS) (xs ys : List Int) : DivS :=
  let sx := xs.getD (xs.length - 1) 0
  let rest := s.r.take xs.length
  let h := xorF s.g sx (ys.getD (xs.length - 1) 0)
  let n3 := negF h.1 s.q
  let c3 := chooseF n3.g h.2 n3.out s.q
  let n4 := negF c3.g rest
  let c4 := chooseF n4.g sx n4.out rest
  let z := equalF c4.g ys (bitsI xs.length 0)
  let c5 := chooseF z.g z.x (bitsI xs.length 0) c3.out
  let c6 := chooseF c5.g z.x xs c4.out
  ⟨c6.g, c5.out, c6.out⟩
def divideF (g : GS) (xs ys : List Int) : DivS :=
  if okW xs ys then (let a := divA g xs ys; divZ (divK a.g a.ax (a.ay ++ [0]) xs.length xs.length) xs ys) else ⟨g, [], []⟩
end Go.Proofs.Ytgmcajojigedaaa
