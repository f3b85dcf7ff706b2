/- Words on memory for this seat: frames, slices that read as lists, maps that hold exactly known entries. No program is named here. Integers of a width, and the bits of an int: plain lemmas on numbers. No program is named here. Walks of the small functions on widths: valid, IsWidth, and both Wraps. What the table of types says of the elements of slices. Walks of slices.Equal at []int and at []bool. Maps whose entries are exactly known: a look-up, a store of a new key, the two halves of a store. And the keys of this program: two ints, an int, a term. A region that draws its order, walked in ONE order: the quiet operations first; behind each loud one only those cells are shown again that some quiet operation reads which does not wait for it. -/
import Derived.WalkKit
import Derived.WalkSpells
import Derived.WalkLawsBesides
import Derived.Lib.Hide
import Derived.Deep.AppendLies
import Derived.Deep.QuietTactic
import Derived.BigQuiet
import Derived.Deep.Draws
import Derived.Maps.OwnSet
import Derived.Laws.BitsAllLaws
import Derived.Laws.BitsLemmas
import Derived.IntWalk
import Derived.RowKit
import Derived.Below
import Derived.Test.YtgmcajojigedaaaProg
import Derived.DeepKeys4
import Derived.WideKeyEntry
import Derived.OrdersHeld
import Derived.Defers
import Derived.KernelRfl
import Derived.Laws.World
set_option linter.unusedSimpArgs false
set_option linter.unusedVariables false
namespace Go.Proofs.Ytgmcajojigedaaa
open Go.RowKit

/-- May a block turn? A row of cells whose type is listed; a map whose number is listed. -/
def turns (ts ms : List Nat) (k : Nat) : Obj → Prop
  | .cells _ t _ => t ∈ ts
  | .map _ _ => k ∈ ms
  | _ => False

/-- w' is w but for new blocks and, from block B0 on, rows of the listed types and the listed maps. -/
structure Fr (B0 : Nat) (ts ms : List Nat) (w w' : World) : Prop where
  os : w'.os = w.os
  tape : w'.tape = w.tape
  output : w'.output = w.output
  size : w.heap.size ≤ w'.heap.size
  block : ∀ k o, w.heap[k]? = some o → ¬ (B0 ≤ k ∧ turns ts ms k o) → w'.heap[k]? = some o

section
variable {B0 : Nat} {ts ms : List Nat} {w w1 w' w'' : World}

theorem Fr.refl (B0 : Nat) (ts ms : List Nat) (w : World) : Fr B0 ts ms w w := ⟨rfl, rfl, rfl, Nat.le_refl _, fun _ _ h _ => h⟩
theorem Fr.trans (h : Fr B0 ts ms w w') (k : Fr B0 ts ms w' w'') : Fr B0 ts ms w w'' :=
  ⟨k.os.trans h.os, k.tape.trans h.tape, k.output.trans h.output, Nat.le_trans h.size k.size, fun i o hi hn => k.block i o (h.block i o hi hn) hn⟩
theorem turns.mono {ts' ms' : List Nat} (ht : ∀ x, x ∈ ts → x ∈ ts') (hm : ∀ x, x ∈ ms → x ∈ ms') {k : Nat} {o : Obj} (h : turns ts ms k o) : turns ts' ms' k o := by
  cases o <;> simp only [turns] at h ⊢
  · exact ht _ h
  · exact hm _ h
theorem Fr.mono {ts' ms' : List Nat} (h : Fr B0 ts ms w w') (ht : ∀ x, x ∈ ts → x ∈ ts') (hm : ∀ x, x ∈ ms → x ∈ ms') : Fr B0 ts' ms' w w' :=
  ⟨h.os, h.tape, h.output, h.size, fun k o hk hn => h.block k o hk fun ⟨a, b⟩ => hn ⟨a, b.mono ht hm⟩⟩
theorem some_of_lt {w : World} {k : Nat} (h : k < w.heap.size) : ∃ o, w.heap[k]? = some o := ⟨w.heap[k], Array.getElem?_eq_getElem h⟩
theorem lt_of_some {w : World} {k : Nat} {o : Obj} (h : w.heap[k]? = some o) : k < w.heap.size := (Array.getElem?_eq_some_iff.1 h).1
theorem Fr.of_below (h : Below w.heap.size w w') : Fr B0 ts ms w w' :=
  ⟨h.os, h.tape, h.output, h.size, fun k _ hk _ => (h.block k (lt_of_some hk)).trans hk⟩
theorem Fr.below (h : Fr B0 ts ms w w') (hB : B0 ≤ w.heap.size) : Below B0 w w' :=
  ⟨h.os, h.tape, h.output, h.size, fun k hk => by
    obtain ⟨o, ho⟩ := some_of_lt (w := w) (k := k) (by omega)
    exact (h.block k o ho (fun ⟨a, _⟩ => by omega)).trans ho.symm⟩
theorem Fr.alloc (h : Fr B0 ts ms w w') (o : Obj) : Fr B0 ts ms w (w'.alloc o) := h.trans (.of_below ((Below.refl _ _).alloc (Nat.le_refl _) o))
theorem Fr.drew (h : Fr B0 ts ms w w') : Fr B0 ts ms w w'.drew := ⟨h.os, h.tape, h.output, h.size, h.block⟩
theorem Fr.drewN (h : Fr B0 ts ms w w') (n : Nat) : Fr B0 ts ms w (w'.drewN n) := ⟨h.os, h.tape, h.output, h.size, h.block⟩
theorem Fr.setCell (h : Fr B0 ts ms w w') {p : Addr} {cs : Array Value} {t : TypeId} {f : Nat × Nat} (hp : w'.heap[p.block]? = some (.cells cs t f)) (ht : t ∈ ts) (hB : B0 ≤ p.block) (u : Value) : Fr B0 ts ms w (w'.setCell p u) :=
  h.trans ⟨rfl, rfl, rfl, by simp [World.setCell], fun k o hk hn => by
    rw [Below.heap_setCell _ _ _ _ (fun e => ?_)]; exact hk
    subst e
    rw [hp] at hk
    cases hk
    exact hn ⟨hB, ht⟩⟩
theorem Fr.grown (h : Fr B0 ts ms w w') {row : Option Nat} (hg : w'.grownBy w'' row) (hr : ∀ g o, row = some g → w'.heap[g]? = some o → B0 ≤ g ∧ turns ts ms g o) : Fr B0 ts ms w w'' :=
  h.trans ⟨hg.os, hg.tape, hg.output, hg.size, fun k o hk hn => by
    rw [hg.block k (lt_of_some hk) (fun e => hn (hr k o e.symm hk))]; exact hk⟩
theorem Below.grown_fresh {B : Nat} {row : Option Nat} (h : Below B w w') (hg : w'.grownBy w'' row) (hB : B ≤ w'.heap.size) (hr : ∀ k, row = some k → B ≤ k) : Below B w w'' := h.grown hg hB hr
end

/-- The numbers xs lie behind the slice value '.slice A xs.length c': in memory that was there (below B0), or in a row of elements of type e. -/
def SlOf {α : Type} (F : α → Value) (e : Nat) (w : World) (B0 : Nat) (A : Option Addr) (c : Nat) (xs : List α) : Prop :=
  xs.length ≤ c ∧ c ≤ 9223372036854775807 ∧ (0 < xs.length → ∃ b o, A = some ⟨b, o, none⟩ ∧ (b < B0 ∨ ∃ cs f, w.heap[b]? = some (.cells cs e f)) ∧ ∀ (k : Nat) (x : α), xs[k]? = some x → w.cell? ⟨b, o + k, none⟩ = some (F x))

section
variable {α : Type} {F : α → Value} {e : Nat} {w w' : World} {B0 B1 : Nat} {A : Option Addr} {c : Nat} {xs : List α}

theorem SlOf.le (h : SlOf F e w B0 A c xs) : xs.length ≤ c := h.1
theorem SlOf.big (h : SlOf F e w B0 A c xs) : xs.length ≤ 9223372036854775807 := Nat.le_trans h.1 h.2.1
theorem SlOf.at_ (h : SlOf F e w B0 A c xs) {k : Nat} (hk : k < xs.length) : ∃ b o x, A = some ⟨b, o, none⟩ ∧ xs[k]? = some x ∧ w.cell? ⟨b, o + k, none⟩ = some (F x) := by
  obtain ⟨b, o, rfl, _, hc⟩ := h.2.2 (by omega)
  have hx : xs[k]? = some xs[k] := List.getElem?_eq_getElem hk
  exact ⟨b, o, xs[k], rfl, hx, hc k _ hx⟩
theorem cell_lt {w : World} {a : Addr} {v : Value} (h : w.cell? a = some v) : a.block < w.heap.size := World.block_lt_of_cell? w a h
theorem SlOf.keep (h : SlOf F e w B0 A c xs) (hk : ∀ b, b < w.heap.size → (b < B0 ∨ ∃ cs f, w.heap[b]? = some (.cells cs e f)) → w'.heap[b]? = w.heap[b]?) : SlOf F e w' B0 A c xs := by
  refine ⟨h.1, h.2.1, fun hn => ?_⟩
  obtain ⟨b, o, rfl, ht, hc⟩ := h.2.2 hn
  have hb : b < w.heap.size := by
    have := hc 0 _ (List.getElem?_eq_getElem hn)
    exact cell_lt this
  have e1 := hk b hb ht
  exact ⟨b, o, rfl, ht.imp id (fun ⟨cs, f, h⟩ => ⟨cs, f, by rw [e1]; exact h⟩), fun k x hx => (World.cell?_of_block (w := w) e1).trans (hc k x hx)⟩
theorem SlOf.fr {ts ms : List Nat} (h : SlOf F e w B0 A c xs) (hf : Fr B0 ts ms w w') (he : e ∉ ts) : SlOf F e w' B0 A c xs := by
  refine h.keep fun b hb ht => ?_
  obtain ⟨o, ho⟩ := some_of_lt hb
  rw [ho]
  refine hf.block b o ho fun ⟨h1, h2⟩ => ?_
  rcases ht with ht | ⟨cs, f, ht⟩
  · omega
  · rw [ht] at ho; cases ho; exact he h2
theorem SlOf.below (h : SlOf F e w B0 A c xs) (hb : Below w.heap.size w w') : SlOf F e w' B0 A c xs := h.keep fun b hb' _ => hb.block b hb'
theorem SlOf.alloc (h : SlOf F e w B0 A c xs) (o : Obj) : SlOf F e (w.alloc o) B0 A c xs := h.below ((Below.refl _ _).alloc (Nat.le_refl _) o)
theorem SlOf.drew (h : SlOf F e w B0 A c xs) : SlOf F e w.drew B0 A c xs := h
theorem SlOf.drewN (h : SlOf F e w B0 A c xs) (n : Nat) : SlOf F e (w.drewN n) B0 A c xs := h
theorem SlOf.nil (w : World) (B0 : Nat) : SlOf F e w B0 none 0 [] := ⟨Nat.le_refl _, by omega, fun h => absurd h (by simp)⟩
theorem SlOf.more (h : SlOf F e w B0 A c xs) (hB : B0 ≤ B1) : SlOf F e w B1 A c xs :=
  ⟨h.1, h.2.1, fun hn => let ⟨b, o, h1, h2, h3⟩ := h.2.2 hn; ⟨b, o, h1, h2.imp (fun h => by omega) id, h3⟩⟩
/-- What a call owns reads as a list. -/
theorem SlOf.of_own {base n : Nat} {v : Value} (h : w.ownsRow base e 1 v n (xs.map F)) : ∃ A c, v = .slice A xs.length c ∧ n = xs.length ∧ SlOf F e w B0 A c xs := by
  have hn : n = xs.length := by have := h.1; simp at this; omega
  subst hn
  rcases h.2 with ⟨rfl, h0⟩ | ⟨g, cap, cur, rfl, _, hg, h1, h2, h3, h4⟩
  · exact ⟨none, 0, by rw [h0], rfl, by omega, by omega, fun hn => by omega⟩
  · refine ⟨_, _, rfl, rfl, h1, h2, fun hn => ⟨g, 0, rfl, .inr ⟨cur, _, hg⟩, fun k x hx => ?_⟩⟩
    have := h.cells (g := g) rfl k (F x) (by simp [hx])
    rw [Addr.add_lit] at this
    exact this
end

/-- 'v' is a slice of the call's own (from block B on) that holds the list xs: nil, or at the head of a row of elements of type e. -/
def OwnOf {α : Type} (F : α → Value) (e : Nat) (w : World) (B : Nat) (v : Value) (xs : List α) : Prop := w.ownsRow B e 1 v xs.length (xs.map F)

section
variable {α : Type} {F : α → Value} {e : Nat} {w w' : World} {B : Nat} {v : Value} {xs : List α}
theorem OwnOf.nil (w : World) (B : Nat) : OwnOf F e w B (.slice none 0 0) [] := World.ownsRow_nil w B e 1
theorem OwnOf.kept {row : Option Nat} (h : OwnOf F e w B v xs) (hg : w.grownBy w' row) (hne : v.ownBlock = none ∨ v.ownBlock ≠ row) : OwnOf F e w' B v xs := World.ownsRow.kept h hg hne
theorem grown_of_below (h : Below w.heap.size w w') : w.grownBy w' none := ⟨h.os, h.tape, h.output, h.size, fun k hk _ => h.block k hk⟩
theorem OwnOf.below (h : OwnOf F e w B v xs) (hb : Below w.heap.size w w') : OwnOf F e w' B v xs := h.kept (grown_of_below hb) (by cases v.ownBlock <;> simp)
theorem OwnOf.alloc (h : OwnOf F e w B v xs) (o : Obj) : OwnOf F e (w.alloc o) B v xs := World.ownsRow.alloc h o
theorem OwnOf.drew (h : OwnOf F e w B v xs) : OwnOf F e w.drew B v xs := h
theorem OwnOf.drewN (h : OwnOf F e w B v xs) (n : Nat) : OwnOf F e (w.drewN n) B v xs := h
theorem OwnOf.mono {B' : Nat} (h : OwnOf F e w B v xs) (hB : B' ≤ B) : OwnOf F e w B' v xs :=
  ⟨h.1, h.2.imp id (fun ⟨g, cap, cur, h1, h2, h3⟩ => ⟨g, cap, cur, h1, by omega, h3⟩)⟩
theorem OwnOf.sl (h : OwnOf F e w B v xs) (B0 : Nat) : ∃ A c, v = .slice A xs.length c ∧ SlOf F e w B0 A c xs :=
  let ⟨A, c, h1, _, h2⟩ := SlOf.of_own (B0 := B0) h; ⟨A, c, h1, h2⟩
theorem OwnOf.lt (h : OwnOf F e w B v xs) : ∀ k, v.ownBlock = some k → B ≤ k ∧ k < w.heap.size := World.ownsRow.lt h
/-- The row, as a block. -/
theorem OwnOf.typed (h : OwnOf F e w B v xs) : ∀ k, v.ownBlock = some k → ∃ cs, w.heap[k]? = some (.cells cs e (0, 0)) := by
  intro k hk
  rcases h.2 with ⟨rfl, _⟩ | ⟨g, cap, cur, rfl, _, hg, _⟩
  · simp [Value.ownBlock] at hk
  · simp [Value.ownBlock] at hk
    subst hk
    exact ⟨cur, hg⟩
theorem OwnOf.fr {B0 : Nat} {ts ms : List Nat} (h : OwnOf F e w B v xs) (hf : Fr B0 ts ms w w') (he : e ∉ ts) : OwnOf F e w' B v xs := by
  refine ⟨h.1, ?_⟩
  rcases h.2 with hn | ⟨g, cap, cur, rfl, hb, hg, rest⟩
  · exact .inl hn
  · exact .inr ⟨g, cap, cur, rfl, hb, hf.block g _ hg (fun ⟨_, h2⟩ => he h2), rest⟩
end

/-- 'out = append(out, y)' onto a slice of the call's own, elements of one cell. -/
theorem app1 {P : Program} {α : Type} (F : α → Value) (hF : ∀ x, (F x).oneCell' = true) (t e bytes : Nat) {z : Value} (ht : P.underlying t = some (.slice e))
    (hinfo : (P.info? e).map (fun i => (i.zero, i.size, i.bytes)) = some (some z, 1, bytes)) (hzs : z.cells.size = 1)
    {ops : Array Oper} {rest : List Oper} {o : Oper} {a : Act} {Q : Exit → Act → World → Prop} {w0 : World} (hg : o.guard = none) (s x : Operand)
    (hop : o.op = .call { callee := .builtin .append, args := #[s, x], argTypes := #[t, t] })
    (B : Nat) (v : Value) (xs : List α) (y : α) (hown : OwnOf F e w0 B v xs) (hs : a.eval s = v) (hx : a.eval x = .slice (some ⟨w0.heap.size, 0, none⟩) 1 1)
    (h63 : xs.length + 1 ≤ 9223372036854775807) (hb : (xs.length + 1) * bytes ≤ 140737488355328) (hB : B ≤ w0.heap.size)
    (hK : ∀ v' w', OwnOf F e w' B v' (xs ++ [y]) → w0.grownBy w' v.ownBlock → wpList P ops Q rest (a.put o.dst v') w') :
    wpList P ops Q (o :: rest) a (w0.alloc (.cells #[F y] e)) := by
  obtain ⟨i, hi, hz0, hz1, hz2⟩ := info_parts hinfo
  refine wpList_append_own _ hg s x t hop B e i z 1 bytes ht hi hz0 hz1 hz2 hzs (by decide) v xs.length (xs.map F) hs (World.ownsRow.alloc hown _) ⟨w0.heap.size, 0, none⟩ 1 1 [F y] hx rfl ?_ ?_ h63 hb (Nat.le_trans hB (by simp)) ?_
  · exact cell_one_new _ _ _
  · intro u hu; simp at hu; subst hu; exact hF y
  · intro v' w' ho hgr _
    refine hK v' w' ?_ ?_
    · unfold OwnOf; rw [List.length_append, List.map_append]; exact ho
    · exact (World.grownBy_alloc _ _ _).trans hgr

abbrev OwnI := OwnOf (Value.int .i64) 3
abbrev OwnB := OwnOf Value.bool 4
abbrev SlI := SlOf (Value.int .i64) 3
abbrev SlB := SlOf Value.bool 4


theorem SlOf.grown {α : Type} {F : α → Value} {e : Nat} {w w' : World} {B0 : Nat} {A : Option Addr} {c : Nat} {xs : List α} (h : SlOf F e w B0 A c xs) {row : Option Nat} (hg : w.grownBy w' row)
    (hr : ∀ g, row = some g → B0 ≤ g ∧ (g < w.heap.size → ∃ cs e' f, w.heap[g]? = some (.cells cs e' f) ∧ e' ≠ e)) : SlOf F e w' B0 A c xs :=
  h.keep fun b hb ht => hg.block b hb fun e1 => by
    obtain ⟨h1, h2⟩ := hr b e1.symm
    obtain ⟨cs, e', f, h3, h4⟩ := h2 hb
    rcases ht with ht | ⟨cs', f', ht⟩
    · omega
    · rw [ht] at h3; cases h3; exact h4 rfl

/-- A list that has just been laid in a row of its own. -/
theorem sl_new {α : Type} (F : α → Value) (e : Nat) (w : World) (B0 : Nat) (xs : List α) (hx : xs.length ≤ 9223372036854775807) :
    SlOf F e (w.alloc (.cells (xs.map F).toArray e)) B0 (some ⟨w.heap.size, 0, none⟩) xs.length xs := by
  refine ⟨Nat.le_refl _, hx, fun _ => ⟨_, _, rfl, .inr ⟨_, _, heap_alloc_new w _⟩, fun k x hk => ?_⟩⟩
  rw [cell_of_row _ _ _ _ _ _ (heap_alloc_new w _)]
  simp [hk]
theorem own_new {α : Type} (F : α → Value) (e : Nat) (w : World) (B : Nat) (hB : B ≤ w.heap.size) (xs : List α) (hx : xs.length ≤ 9223372036854775807) :
    OwnOf F e (w.alloc (.cells (xs.map F).toArray e)) B (.slice (some ⟨w.heap.size, 0, none⟩) xs.length xs.length) xs :=
  ⟨by simp, .inr ⟨_, _, _, rfl, hB, heap_alloc_new w _, Nat.le_refl _, hx, by simp, by rw [List.take_of_length_le (by simp)]⟩⟩

/-- A slice value, by its parts. -/
def slV (p : Option Addr × Nat × Nat) : Value := .slice p.1 p.2.1 p.2.2
theorem oneSl (p : Option Addr × Nat × Nat) : (slV p).oneCell' = true := rfl
theorem oneInt (x : Int) : (Value.int .i64 x).oneCell' = true := rfl
theorem oneBool (x : Bool) : (Value.bool x).oneCell' = true := rfl

/-- A slice of slices of numbers. -/
def SlW (w : World) (B0 : Nat) (A : Option Addr) (c : Nat) (ws : List (List Int)) : Prop :=
  ∃ sv : List (Option Addr × Nat × Nat), sv.length = ws.length ∧ SlOf slV 24 w B0 A c sv ∧ ∀ (i : Nat) (p : Option Addr × Nat × Nat) (x : List Int), sv[i]? = some p → ws[i]? = some x → p.2.1 = x.length ∧ SlI w B0 p.1 p.2.2 x

theorem SlW.at_ {w : World} {B0 : Nat} {A : Option Addr} {c : Nat} {ws : List (List Int)} (h : SlW w B0 A c ws) {k : Nat} (hk : k < ws.length) :
    ∃ b o x A' c', A = some ⟨b, o, none⟩ ∧ ws[k]? = some x ∧ w.cell? ⟨b, o + k, none⟩ = some (.slice A' x.length c') ∧ SlI w B0 A' c' x := by
  obtain ⟨sv, hl, hs, hall⟩ := h
  obtain ⟨b, o, p, rfl, hp, hc⟩ := hs.at_ (k := k) (by omega)
  have hx : ws[k]? = some ws[k] := List.getElem?_eq_getElem hk
  obtain ⟨h1, h2⟩ := hall k p _ hp hx
  exact ⟨b, o, _, p.1, p.2.2, rfl, hx, by rw [hc]; simp [slV, h1], h2⟩
theorem SlW.below {w w' : World} {B0 : Nat} {A : Option Addr} {c : Nat} {ws : List (List Int)} (h : SlW w B0 A c ws) (hb : Below w.heap.size w w') : SlW w' B0 A c ws :=
  let ⟨sv, h1, h2, h3⟩ := h; ⟨sv, h1, h2.below hb, fun i p x hp hx => ⟨(h3 i p x hp hx).1, (h3 i p x hp hx).2.below hb⟩⟩
theorem SlW.fr {w w' : World} {B0 : Nat} {A : Option Addr} {c : Nat} {ws : List (List Int)} {ts ms : List Nat} (h : SlW w B0 A c ws) (hf : Fr B0 ts ms w w') (h3 : 3 ∉ ts) (h24 : 24 ∉ ts) : SlW w' B0 A c ws :=
  let ⟨sv, h1, h2, h4⟩ := h; ⟨sv, h1, h2.fr hf h24, fun i p x hp hx => ⟨(h4 i p x hp hx).1, (h4 i p x hp hx).2.fr hf h3⟩⟩

/-- The same, of the call's own from B on: more may be appended. -/
def OwnW (w : World) (B0 B : Nat) (v : Value) (ws : List (List Int)) : Prop :=
  ∃ sv : List (Option Addr × Nat × Nat), sv.length = ws.length ∧ OwnOf slV 24 w B v sv ∧ ∀ (i : Nat) (p : Option Addr × Nat × Nat) (x : List Int), sv[i]? = some p → ws[i]? = some x → p.2.1 = x.length ∧ SlI w B0 p.1 p.2.2 x
theorem OwnW.nil (w : World) (B0 B : Nat) : OwnW w B0 B (.slice none 0 0) [] := ⟨[], rfl, OwnOf.nil _ _, fun i p x h => by simp at h⟩
theorem OwnW.sl {w : World} {B0 B : Nat} {v : Value} {ws : List (List Int)} (h : OwnW w B0 B v ws) : ∃ A c, v = .slice A ws.length c ∧ SlW w B0 A c ws := by
  obtain ⟨sv, h1, h2, h3⟩ := h
  obtain ⟨A, c, rfl, hs⟩ := h2.sl B0
  exact ⟨A, c, by rw [h1], sv, h1, hs, h3⟩
theorem OwnW.lt {w : World} {B0 B : Nat} {v : Value} {ws : List (List Int)} (h : OwnW w B0 B v ws) : ∀ k, v.ownBlock = some k → B ≤ k ∧ k < w.heap.size := let ⟨_, _, h2, _⟩ := h; h2.lt
theorem OwnW.below {w w' : World} {B0 B : Nat} {v : Value} {ws : List (List Int)} (h : OwnW w B0 B v ws) (hb : Below w.heap.size w w') : OwnW w' B0 B v ws :=
  let ⟨sv, h1, h2, h3⟩ := h; ⟨sv, h1, h2.below hb, fun i p x hp hx => ⟨(h3 i p x hp hx).1, (h3 i p x hp hx).2.below hb⟩⟩

/-- 'out = append(out, w)', w a slice of numbers. -/
theorem appW {P : Program} (t bytes : Nat) {z : Value} (ht : P.underlying t = some (.slice 24))
    (hinfo : (P.info? 24).map (fun i => (i.zero, i.size, i.bytes)) = some (some z, 1, bytes)) (hzs : z.cells.size = 1)
    {ops : Array Oper} {rest : List Oper} {o : Oper} {a : Act} {Q : Exit → Act → World → Prop} {w0 : World} (hg : o.guard = none) (s x : Operand)
    (hop : o.op = .call { callee := .builtin .append, args := #[s, x], argTypes := #[t, t] })
    (B0 B : Nat) (v : Value) (ws : List (List Int)) (A : Option Addr) (c : Nat) (y : List Int) (hown : OwnW w0 B0 B v ws) (hy : SlI w0 B0 A c y) (hs : a.eval s = v) (hx : a.eval x = .slice (some ⟨w0.heap.size, 0, none⟩) 1 1)
    (h63 : ws.length + 1 ≤ 9223372036854775807) (hb : (ws.length + 1) * bytes ≤ 140737488355328) (hB : B ≤ w0.heap.size) (hB0 : B0 ≤ B)
    (hK : ∀ v' w', OwnW w' B0 B v' (ws ++ [y]) → w0.grownBy w' v.ownBlock → wpList P ops Q rest (a.put o.dst v') w') :
    wpList P ops Q (o :: rest) a (w0.alloc (.cells #[.slice A y.length c] 24)) := by
  obtain ⟨sv, h1, h2, h3⟩ := hown
  refine app1 slV oneSl t 24 bytes ht hinfo hzs hg s x hop B v sv (A, y.length, c) h2 hs hx (by omega) (by rw [h1]; exact hb) hB fun v' w' ho hgr => hK v' w' ⟨sv ++ [(A, y.length, c)], by simp [h1], ho, ?_⟩ hgr
  have hr : ∀ g, v.ownBlock = some g → B0 ≤ g ∧ (g < w0.heap.size → ∃ cs e' f, w0.heap[g]? = some (.cells cs e' f) ∧ e' ≠ 3) := fun g hg => by
    obtain ⟨cs, hcs⟩ := h2.typed g hg
    exact ⟨Nat.le_trans hB0 (h2.lt g hg).1, fun _ => ⟨cs, 24, _, hcs, by decide⟩⟩
  intro i p x hp hx
  by_cases hi : i < sv.length
  · rw [List.getElem?_append_left hi] at hp
    rw [List.getElem?_append_left (by omega)] at hx
    exact ⟨(h3 i p x hp hx).1, (h3 i p x hp hx).2.grown hgr hr⟩
  · rw [List.getElem?_append_right (by omega)] at hp
    rw [List.getElem?_append_right (by omega)] at hx
    have hi0 : i - sv.length = 0 := by
      have := (List.getElem?_eq_some_iff.1 hp).1; simp at this; omega
    rw [hi0] at hp
    rw [← h1, hi0] at hx
    simp at hp hx
    subst hp hx
    exact ⟨rfl, hy.grown hgr hr⟩


/-! ### append of a whole slice, nil or not -/
section
variable {P : Program} (w : World)
theorem run_append_of_nil (base : Nat) (t ty e : TypeId) (i : TypeInfo) (size : Nat) (ht : P.underlying t = some (.slice e)) (hi : P.info? e = some i)
    (v : Value) (n : Nat) (xs : List Value) (hown : w.ownsRow base e size v n xs) (c : Nat) : (Builtin.append_ #[t, t] ty #[v, .slice none 0 c]).run P w = .ok v w := by
  rcases hown.2 with ⟨rfl, rfl⟩ | ⟨g, cap, cur, rfl, _, _, hnc, _⟩
  · simp [Builtin.append_, run_underlying ht, sizeOf, typeInfo, hi, Builtin.lenOf, Builtin.firstCells]
  · simp [Builtin.append_, run_underlying ht, sizeOf, typeInfo, hi, Builtin.lenOf, Builtin.firstCells, hnc, storeCells]

theorem run_append_src (base : Nat) (t ty e : TypeId) (i : TypeInfo) (z : Value) (size bytes : Nat) (ht : P.underlying t = some (.slice e)) (hi : P.info? e = some i) (hz : i.zero = some z)
    (hsize : i.size = size) (hby : i.bytes = bytes) (hzs : z.cells.size = size) (hsz : 0 < size)
    (v : Value) (n : Nat) (xs : List Value) (hown : w.ownsRow base e size v n xs)
    (A : Option Addr) (m c : Nat) (news : List Value) (hl : news.length = m * size) (hr : 0 < m → ∃ ad, A = some ad ∧ ∀ j u, news[j]? = some u → w.cell? (ad.add j) = some u) (h1 : ∀ u ∈ news, u.oneCell' = true)
    (h63 : n + m ≤ maxLen) (hbytes : (n + m) * bytes ≤ 140737488355328) (hbase : base ≤ w.heap.size) :
    ∃ v' w', (Builtin.append_ #[t, t] ty #[v, .slice A m c]).run P w = .ok v' w' ∧ w'.ownsRow base e size v' (n + m) (xs ++ news) ∧ w.grownBy w' v.ownBlock := by
  rcases A with _ | ad
  · have hm : m = 0 := by
      rcases Nat.eq_zero_or_pos m with h0 | h0
      · exact h0
      · obtain ⟨ad, h, _⟩ := hr h0
        cases h
    subst hm
    have hn : news = [] := List.eq_nil_of_length_eq_zero (by simpa using hl)
    subst hn
    exact ⟨v, w, run_append_of_nil w base t ty e i size ht hi v n xs hown c, by simpa using hown, World.grownBy.refl w _⟩
  · have hcells : ∀ j u, news[j]? = some u → w.cell? (ad.add j) = some u := by
      intro j u hu
      rcases Nat.eq_zero_or_pos m with h0 | h0
      · subst h0
        have hn : news = [] := List.eq_nil_of_length_eq_zero (by simpa using hl)
        subst hn
        simp at hu
      · obtain ⟨ad', h, hc⟩ := hr h0
        injection h with h
        subst h
        exact hc j u hu
    obtain ⟨v', w', hrun, h2, h3, _⟩ := run_append_own (P := P) w base t ty e i z size bytes ht hi hz hsize hby hzs hsz v n xs hown ad m c news hl hcells h1 h63 hbytes hbase
    exact ⟨v', w', hrun, h2, h3⟩

theorem wp_append_src {o : Oper} {a : Act} {K : Act → World → Prop} {Q : Exit → Act → World → Prop} (s x : Operand) (t : TypeId)
    (ho : o.op = .call { callee := .builtin .append, args := #[s, x], argTypes := #[t, t] })
    (base : Nat) (e : TypeId) (z : Value) (size bytes : Nat) (ht : P.underlying t = some (.slice e)) (hinfo : (P.info? e).map (fun i => (i.zero, i.size, i.bytes)) = some (some z, size, bytes)) (hzs : z.cells.size = size) (hsz : 0 < size)
    (v : Value) (n : Nat) (xs : List Value) (hown : w.ownsRow base e size v n xs) (hs : a.eval s = v)
    (A : Option Addr) (m c : Nat) (news : List Value) (hx : a.eval x = .slice A m c) (hl : news.length = m * size) (hr : 0 < m → ∃ ad, A = some ad ∧ ∀ j u, news[j]? = some u → w.cell? (ad.add j) = some u) (h1 : ∀ u ∈ news, u.oneCell' = true)
    (h63 : n + m ≤ maxLen) (hbytes : (n + m) * bytes ≤ 140737488355328) (hbase : base ≤ w.heap.size)
    (h : ∀ v' w', w'.ownsRow base e size v' (n + m) (xs ++ news) → w.grownBy w' v.ownBlock → K (a.put o.dst v') w') : o.wp P a w K Q := by
  obtain ⟨i, hi, hz0, hz1, hz2⟩ := info_parts hinfo
  obtain ⟨v', w', hrun, h2, h3⟩ := run_append_src (P := P) w base t o.type e i z size bytes ht hi hz0 hz1 hz2 hzs hsz v n xs hown A m c news hl hr h1 h63 hbytes hbase
  unfold Oper.wp execOp
  simp only [ho, resolve, invoke, builtin, Sem.run_bind, Sem.run_pure, Result.andThen_ok, List.map_toArray, List.map_cons, List.map_nil, hs, hx, hrun]
  exact h v' w' h2 h3
theorem wpList_append_src {ops : Array Oper} {rest : List Oper} {o : Oper} {a : Act} {Q : Exit → Act → World → Prop} (hgd : o.guard = none) (s x : Operand) (t : TypeId)
    (ho : o.op = .call { callee := .builtin .append, args := #[s, x], argTypes := #[t, t] })
    (base : Nat) (e : TypeId) (z : Value) (size bytes : Nat) (ht : P.underlying t = some (.slice e)) (hinfo : (P.info? e).map (fun i => (i.zero, i.size, i.bytes)) = some (some z, size, bytes)) (hzs : z.cells.size = size) (hsz : 0 < size)
    (v : Value) (n : Nat) (xs : List Value) (hown : w.ownsRow base e size v n xs) (hs : a.eval s = v)
    (A : Option Addr) (m c : Nat) (news : List Value) (hx : a.eval x = .slice A m c) (hl : news.length = m * size) (hr : 0 < m → ∃ ad, A = some ad ∧ ∀ j u, news[j]? = some u → w.cell? (ad.add j) = some u) (h1 : ∀ u ∈ news, u.oneCell' = true)
    (h63 : n + m ≤ maxLen) (hbytes : (n + m) * bytes ≤ 140737488355328) (hbase : base ≤ w.heap.size)
    (h : ∀ v' w', w'.ownsRow base e size v' (n + m) (xs ++ news) → w.grownBy w' v.ownBlock → wpList P ops Q rest (a.put o.dst v') w') : wpList P ops Q (o :: rest) a w :=
  wpList_plain hgd fun _ hK => wp_append_src w s x t ho base e z size bytes ht hinfo hzs hsz v n xs hown hs A m c news hx hl hr h1 h63 hbytes hbase fun v' w' h2 h3 => hK _ _ (h v' w' h2 h3)
end

end Go.Proofs.Ytgmcajojigedaaa
namespace Go.Proofs.Ytgmcajojigedaaa

theorem toNat_i64 (a : Int) (ha : 0 ≤ a) (h : a < 9223372036854775808) : (BitVec.ofInt 64 a).toNat = a.toNat := by
  rw [BitVec.toNat_ofInt]
  congr 1
  exact Int.emod_eq_of_lt ha (by omega)

theorem wrap_small (n : Int) (h0 : -9223372036854775808 ≤ n) (h1 : n < 9223372036854775808) : IntKind.i64.wrap n = n := by
  rw [IntKind.wrap_i64]; omega

/-- 'n & (2^k - 1)'. -/
theorem bits_mask (n : Int) (k : Nat) (hk : k ≤ 62) : bits .and .i64 n (2 ^ k - 1) = n % 2 ^ k := by
  have hp : (2 : Nat) ^ k ≤ 2 ^ 62 := Nat.pow_le_pow_right (by omega) hk
  have h1 : ((2 : Int) ^ k - 1) = ((2 ^ k - 1 : Nat) : Int) := by
    have : 0 < (2 : Nat) ^ k := Nat.two_pow_pos k
    rw [Int.natCast_sub (by omega)]; simp
  have h2 : (BitVec.ofInt 64 ((2 : Int) ^ k - 1)).toNat = 2 ^ k - 1 := by
    rw [h1, BitVec.ofInt_natCast, BitVec.toNat_ofNat]
    exact Nat.mod_eq_of_lt (by omega)
  show IntKind.i64.wrap ((BitVec.ofInt 64 n &&& BitVec.ofInt 64 ((2 : Int) ^ k - 1)).toNat : Int) = _
  rw [BitVec.toNat_and, h2, Nat.and_two_pow_sub_one_eq_mod, BitVec.toNat_ofInt]
  have hpos : (0 : Int) < 2 ^ k := Int.pow_pos (by omega)
  have h3 : (((n % (2 ^ 64 : Nat)).toNat % 2 ^ k : Nat) : Int) = n % 2 ^ k := by
    rw [Int.natCast_emod, Int.toNat_of_nonneg (Int.emod_nonneg _ (by decide))]
    have hd : (2 : Int) ^ k ∣ ((2 ^ 64 : Nat) : Int) := by
      refine ⟨2 ^ (64 - k), ?_⟩
      rw [← Int.pow_add]
      have : k + (64 - k) = 64 := by omega
      rw [this]; decide
    have : ((2 ^ k : Nat) : Int) = 2 ^ k := by simp
    rw [this]
    exact Int.emod_emod_of_dvd n hd
  have e := Int.emod_lt_of_pos n hpos
  have e0 := Int.emod_nonneg n (Int.ne_of_gt hpos)
  have hp' : (2 : Int) ^ k ≤ 2 ^ 62 := by
    have : ((2 ^ k : Nat) : Int) ≤ ((2 ^ 62 : Nat) : Int) := Int.ofNat_le.2 hp
    simpa using this
  rw [h3]
  exact wrap_small _ (by omega) (by omega)

theorem bits_and_one (n : Int) : bits .and .i64 n 1 = n % 2 := bits_mask n 1 (by omega)

theorem i64_and_nat (a b : Nat) (ha : a < 9223372036854775808) (hb : b < 9223372036854775808) : bits .and .i64 (a : Int) (b : Int) = ((a &&& b : Nat) : Int) := by
  have hx : a &&& b < 2 ^ 63 := Nat.and_lt_two_pow _ (by omega)
  show IntKind.i64.wrap ((BitVec.ofInt 64 (a : Int) &&& BitVec.ofInt 64 (b : Int)).toNat : Int) = _
  rw [BitVec.toNat_and, toNat_i64 _ (by omega) (by omega), toNat_i64 _ (by omega) (by omega), IntKind.wrap_i64]
  simp only [Int.toNat_natCast]
  omega
theorem i64_or_nat (a b : Nat) (ha : a < 9223372036854775808) (hb : b < 9223372036854775808) : bits .or .i64 (a : Int) (b : Int) = ((a ||| b : Nat) : Int) := by
  have hx : a ||| b < 2 ^ 63 := Nat.or_lt_two_pow (by omega) (by omega)
  show IntKind.i64.wrap ((BitVec.ofInt 64 (a : Int) ||| BitVec.ofInt 64 (b : Int)).toNat : Int) = _
  rw [BitVec.toNat_or, toNat_i64 _ (by omega) (by omega), toNat_i64 _ (by omega) (by omega), IntKind.wrap_i64]
  simp only [Int.toNat_natCast]
  omega
theorem i64_xor_nat (a b : Nat) (ha : a < 9223372036854775808) (hb : b < 9223372036854775808) : bits .xor .i64 (a : Int) (b : Int) = ((a ^^^ b : Nat) : Int) := by
  have hx : a ^^^ b < 2 ^ 63 := Nat.xor_lt_two_pow (by omega) (by omega)
  show IntKind.i64.wrap ((BitVec.ofInt 64 (a : Int) ^^^ BitVec.ofInt 64 (b : Int)).toNat : Int) = _
  rw [BitVec.toNat_xor, toNat_i64 _ (by omega) (by omega), toNat_i64 _ (by omega) (by omega), IntKind.wrap_i64]
  simp only [Int.toNat_natCast]
  omega

/-- 'v | 1<<k' where v is below 2^k. -/
theorem or_pow (v : Int) (k : Nat) (hk : k ≤ 60) (h0 : 0 ≤ v) (h1 : v < 2 ^ k) : bits .or .i64 v (Go.RowKit.wrap64 (2 ^ k)) = v + 2 ^ k := by
  have hp : (2 : Nat) ^ k ≤ 2 ^ 60 := Nat.pow_le_pow_right (by omega) hk
  have hpi : ((2 ^ k : Nat) : Int) = 2 ^ k := by simp
  have hp' : (2 : Int) ^ k ≤ 2 ^ 60 := by rw [← hpi]; exact_mod_cast hp
  have hp0 : (0 : Int) < 2 ^ k := Int.pow_pos (by omega)
  have hw : Go.RowKit.wrap64 (2 ^ k) = ((2 ^ k : Nat) : Int) := by
    rw [hpi]; unfold Go.RowKit.wrap64; omega
  obtain ⟨n, rfl⟩ := Int.eq_ofNat_of_zero_le h0
  have hn : n < 2 ^ k := by rw [← hpi] at h1; exact_mod_cast h1
  have e := Nat.two_pow_add_eq_or_of_lt hn 1
  rw [Nat.mul_one] at e
  rw [hw, i64_or_nat n (2 ^ k) (by omega) (by omega), Nat.or_comm, ← e]
  rw [Int.natCast_add, hpi]; omega

/-- The other literal of a node. -/
def notL (x : Int) : Int := if x % 2 = 0 then x + 1 else x - 1
theorem nat_xor_one (a : Nat) : a ^^^ 1 = if a % 2 = 0 then a + 1 else a - 1 := by
  have h1 := @Nat.xor_div_two_pow a 1 1
  have h2 := @Nat.xor_mod_two_eq_one a 1
  simp at h1
  split <;> omega
theorem bits_xor_one (x : Int) (h0 : 0 ≤ x) (h : x < 9223372036854775807) : bits .xor .i64 x 1 = notL x := by
  obtain ⟨a, rfl⟩ := Int.eq_ofNat_of_zero_le h0
  have := i64_xor_nat a 1 (by omega) (by omega)
  rw [show ((1 : Nat) : Int) = 1 from rfl] at this
  rw [this, nat_xor_one]
  unfold notL
  split <;> split <;> omega

/-- The integer of a width that is equal modulo 2^width. -/
def wrapW (w n : Int) : Int := if 2 ≤ w ∧ w ≤ 8 then Int.bmod n (2 ^ w.toNat) else 0

theorem wr_out {w : Int} (n : Int) (h : w < 2 ∨ 8 < w) : wrapW w n = 0 := if_neg (by omega)
theorem width_cases {w : Int} (h1 : 2 ≤ w) (h2 : w ≤ 8) : w = 2 ∨ w = 3 ∨ w = 4 ∨ w = 5 ∨ w = 6 ∨ w = 7 ∨ w = 8 := by omega
theorem wr_2 (n : Int) : wrapW 2 n = Int.bmod n 4 := rfl
theorem wr_3 (n : Int) : wrapW 3 n = Int.bmod n 8 := rfl
theorem wr_4 (n : Int) : wrapW 4 n = Int.bmod n 16 := rfl
theorem wr_5 (n : Int) : wrapW 5 n = Int.bmod n 32 := rfl
theorem wr_6 (n : Int) : wrapW 6 n = Int.bmod n 64 := rfl
theorem wr_7 (n : Int) : wrapW 7 n = Int.bmod n 128 := rfl
theorem wr_8 (n : Int) : wrapW 8 n = Int.bmod n 256 := rfl

end Go.Proofs.Ytgmcajojigedaaa
namespace Go.Proofs.Ytgmcajojigedaaa
open Go.RowKit

theorem ret_i {k : IntKind} {a b : Int} (h : a = b) : Ending.returned (.int k a) = .returned (.int k b) := by rw [h]

theorem valid_yes (a : Int) (w : World) (h1 : 2 ≤ a) (h2 : a ≤ 8) :
    Calls Try.prog 95 #[.int .i64 a] w fun e w' => e = .returned (.bool true) ∧ w = w' := by
  go_enter Try.func95, Try.ntmps95
  go_wp2
  go_ret
  exact ⟨rfl, rfl⟩
theorem valid_no (a : Int) (w : World) (h : a < 2 ∨ 8 < a) :
    Calls Try.prog 95 #[.int .i64 a] w fun e w' => e = .returned (.bool false) ∧ w = w' := by
  rcases h with h1 | h1
  · go_enter Try.func95, Try.ntmps95
    go_wp2
    go_ret
    exact ⟨rfl, rfl⟩
  · have h2 : 2 ≤ a := by omega
    have hd : decide (a ≤ 8) = false := by simp; omega
    go_enter Try.func95, Try.ntmps95
    go_wp2
    go_ret
    exact ⟨rfl, rfl⟩
theorem isWidth_yes (a : Int) (w : World) (h1 : 2 ≤ a) (h2 : a ≤ 8) :
    Calls Try.prog 23 #[.int .i64 a] w fun e w' => e = .returned (.bool true) ∧ w = w' := by
  go_enter Try.func23, Try.ntmps23
  go_wp2
  go_ret
  exact ⟨rfl, rfl⟩
theorem isWidth_no (a : Int) (w : World) (h : a < 2 ∨ 8 < a) :
    Calls Try.prog 23 #[.int .i64 a] w fun e w' => e = .returned (.bool false) ∧ w = w' := by
  rcases h with h1 | h1
  · go_enter Try.func23, Try.ntmps23
    go_wp2
    go_ret
    exact ⟨rfl, rfl⟩
  · have h2 : 2 ≤ a := by omega
    have hd : decide (a ≤ 8) = false := by simp; omega
    go_enter Try.func23, Try.ntmps23
    go_wp2
    go_ret
    exact ⟨rfl, rfl⟩

theorem wrap_out (a n : Int) (w : World) (h : a < 2 ∨ 8 < a) :
    Calls Try.prog 25 #[.int .i64 a, .int .i64 n] w fun e w' => e = .returned (.int .i64 (wrapW a n)) ∧ w = w' := by
  rw [wr_out n h]
  go_enter Try.func25, Try.ntmps25
  go_wp2_with (go_at_call 95; refine (valid_no _ _ h).mono ?_; rintro e w' ⟨rfl, rfl⟩)
  go_ret
  exact ⟨rfl, rfl⟩
theorem rwrap_out (a n : Int) (w : World) (h : a < 2 ∨ 8 < a) :
    Calls Try.prog 98 #[.int .i64 a, .int .i64 n] w fun e w' => e = .returned (.int .i64 (wrapW a n)) ∧ w = w' := by
  rw [wr_out n h]
  go_enter Try.func98, Try.ntmps98
  go_wp2_with (go_at_call 23; refine (isWidth_no _ _ h).mono ?_; rintro e w' ⟨rfl, rfl⟩)
  go_ret
  exact ⟨rfl, rfl⟩
theorem wrap_2 (n : Int) (w : World) :
    Calls Try.prog 25 #[.int .i64 2, .int .i64 n] w fun e w' => e = .returned (.int .i64 (wrapW 2 n)) ∧ w = w' := by
  obtain ⟨m, hb, h0, h1, hm⟩ : ∃ m, bits .and .i64 n 3 = m ∧ 0 ≤ m ∧ m < 4 ∧ Hid (m = n % 4) := ⟨n % 4, bits_mask n 2 (by omega), by omega, by omega, rfl⟩
  go_enter Try.func25, Try.ntmps25
  go_wp2_with (go_at_call 95; refine (valid_yes _ _ (by omega) (by omega)).mono ?_; rintro e w' ⟨rfl, rfl⟩)
  all_goals go_ret
  all_goals (refine ⟨ret_i ?_, rfl⟩; rw [wr_2]; have hm := hm.out; simp only [Int.bmod]; simp; omega)
theorem rwrap_2 (n : Int) (w : World) :
    Calls Try.prog 98 #[.int .i64 2, .int .i64 n] w fun e w' => e = .returned (.int .i64 (wrapW 2 n)) ∧ w = w' := by
  obtain ⟨m, hb, h0, h1, hm⟩ : ∃ m, n.tmod 4 = m ∧ -4 < m ∧ m < 4 ∧ Hid (m = n.tmod 4) := ⟨n.tmod 4, rfl, by have := Int.lt_tmod_of_pos n (show (0 : Int) < 4 by omega); omega, Int.tmod_lt_of_pos n (by omega), rfl⟩
  go_enter Try.func98, Try.ntmps98
  go_wp2_with (go_at_call 23; refine (isWidth_yes _ _ (by omega) (by omega)).mono ?_; rintro e w' ⟨rfl, rfl⟩)
  all_goals go_ret
  all_goals (refine ⟨ret_i ?_, rfl⟩; rw [wr_2]; have hm := hm.out; rw [Int.tmod_eq_emod] at hm; simp only [Int.bmod]; simp; split at hm <;> omega)
theorem wrap_3 (n : Int) (w : World) :
    Calls Try.prog 25 #[.int .i64 3, .int .i64 n] w fun e w' => e = .returned (.int .i64 (wrapW 3 n)) ∧ w = w' := by
  obtain ⟨m, hb, h0, h1, hm⟩ : ∃ m, bits .and .i64 n 7 = m ∧ 0 ≤ m ∧ m < 8 ∧ Hid (m = n % 8) := ⟨n % 8, bits_mask n 3 (by omega), by omega, by omega, rfl⟩
  go_enter Try.func25, Try.ntmps25
  go_wp2_with (go_at_call 95; refine (valid_yes _ _ (by omega) (by omega)).mono ?_; rintro e w' ⟨rfl, rfl⟩)
  all_goals go_ret
  all_goals (refine ⟨ret_i ?_, rfl⟩; rw [wr_3]; have hm := hm.out; simp only [Int.bmod]; simp; omega)
theorem rwrap_3 (n : Int) (w : World) :
    Calls Try.prog 98 #[.int .i64 3, .int .i64 n] w fun e w' => e = .returned (.int .i64 (wrapW 3 n)) ∧ w = w' := by
  obtain ⟨m, hb, h0, h1, hm⟩ : ∃ m, n.tmod 8 = m ∧ -8 < m ∧ m < 8 ∧ Hid (m = n.tmod 8) := ⟨n.tmod 8, rfl, by have := Int.lt_tmod_of_pos n (show (0 : Int) < 8 by omega); omega, Int.tmod_lt_of_pos n (by omega), rfl⟩
  go_enter Try.func98, Try.ntmps98
  go_wp2_with (go_at_call 23; refine (isWidth_yes _ _ (by omega) (by omega)).mono ?_; rintro e w' ⟨rfl, rfl⟩)
  all_goals go_ret
  all_goals (refine ⟨ret_i ?_, rfl⟩; rw [wr_3]; have hm := hm.out; rw [Int.tmod_eq_emod] at hm; simp only [Int.bmod]; simp; split at hm <;> omega)
theorem wrap_4 (n : Int) (w : World) :
    Calls Try.prog 25 #[.int .i64 4, .int .i64 n] w fun e w' => e = .returned (.int .i64 (wrapW 4 n)) ∧ w = w' := by
  obtain ⟨m, hb, h0, h1, hm⟩ : ∃ m, bits .and .i64 n 15 = m ∧ 0 ≤ m ∧ m < 16 ∧ Hid (m = n % 16) := ⟨n % 16, bits_mask n 4 (by omega), by omega, by omega, rfl⟩
  go_enter Try.func25, Try.ntmps25
  go_wp2_with (go_at_call 95; refine (valid_yes _ _ (by omega) (by omega)).mono ?_; rintro e w' ⟨rfl, rfl⟩)
  all_goals go_ret
  all_goals (refine ⟨ret_i ?_, rfl⟩; rw [wr_4]; have hm := hm.out; simp only [Int.bmod]; simp; omega)
theorem rwrap_4 (n : Int) (w : World) :
    Calls Try.prog 98 #[.int .i64 4, .int .i64 n] w fun e w' => e = .returned (.int .i64 (wrapW 4 n)) ∧ w = w' := by
  obtain ⟨m, hb, h0, h1, hm⟩ : ∃ m, n.tmod 16 = m ∧ -16 < m ∧ m < 16 ∧ Hid (m = n.tmod 16) := ⟨n.tmod 16, rfl, by have := Int.lt_tmod_of_pos n (show (0 : Int) < 16 by omega); omega, Int.tmod_lt_of_pos n (by omega), rfl⟩
  go_enter Try.func98, Try.ntmps98
  go_wp2_with (go_at_call 23; refine (isWidth_yes _ _ (by omega) (by omega)).mono ?_; rintro e w' ⟨rfl, rfl⟩)
  all_goals go_ret
  all_goals (refine ⟨ret_i ?_, rfl⟩; rw [wr_4]; have hm := hm.out; rw [Int.tmod_eq_emod] at hm; simp only [Int.bmod]; simp; split at hm <;> omega)
theorem wrap_5 (n : Int) (w : World) :
    Calls Try.prog 25 #[.int .i64 5, .int .i64 n] w fun e w' => e = .returned (.int .i64 (wrapW 5 n)) ∧ w = w' := by
  obtain ⟨m, hb, h0, h1, hm⟩ : ∃ m, bits .and .i64 n 31 = m ∧ 0 ≤ m ∧ m < 32 ∧ Hid (m = n % 32) := ⟨n % 32, bits_mask n 5 (by omega), by omega, by omega, rfl⟩
  go_enter Try.func25, Try.ntmps25
  go_wp2_with (go_at_call 95; refine (valid_yes _ _ (by omega) (by omega)).mono ?_; rintro e w' ⟨rfl, rfl⟩)
  all_goals go_ret
  all_goals (refine ⟨ret_i ?_, rfl⟩; rw [wr_5]; have hm := hm.out; simp only [Int.bmod]; simp; omega)
theorem rwrap_5 (n : Int) (w : World) :
    Calls Try.prog 98 #[.int .i64 5, .int .i64 n] w fun e w' => e = .returned (.int .i64 (wrapW 5 n)) ∧ w = w' := by
  obtain ⟨m, hb, h0, h1, hm⟩ : ∃ m, n.tmod 32 = m ∧ -32 < m ∧ m < 32 ∧ Hid (m = n.tmod 32) := ⟨n.tmod 32, rfl, by have := Int.lt_tmod_of_pos n (show (0 : Int) < 32 by omega); omega, Int.tmod_lt_of_pos n (by omega), rfl⟩
  go_enter Try.func98, Try.ntmps98
  go_wp2_with (go_at_call 23; refine (isWidth_yes _ _ (by omega) (by omega)).mono ?_; rintro e w' ⟨rfl, rfl⟩)
  all_goals go_ret
  all_goals (refine ⟨ret_i ?_, rfl⟩; rw [wr_5]; have hm := hm.out; rw [Int.tmod_eq_emod] at hm; simp only [Int.bmod]; simp; split at hm <;> omega)
theorem wrap_6 (n : Int) (w : World) :
    Calls Try.prog 25 #[.int .i64 6, .int .i64 n] w fun e w' => e = .returned (.int .i64 (wrapW 6 n)) ∧ w = w' := by
  obtain ⟨m, hb, h0, h1, hm⟩ : ∃ m, bits .and .i64 n 63 = m ∧ 0 ≤ m ∧ m < 64 ∧ Hid (m = n % 64) := ⟨n % 64, bits_mask n 6 (by omega), by omega, by omega, rfl⟩
  go_enter Try.func25, Try.ntmps25
  go_wp2_with (go_at_call 95; refine (valid_yes _ _ (by omega) (by omega)).mono ?_; rintro e w' ⟨rfl, rfl⟩)
  all_goals go_ret
  all_goals (refine ⟨ret_i ?_, rfl⟩; rw [wr_6]; have hm := hm.out; simp only [Int.bmod]; simp; omega)
theorem rwrap_6 (n : Int) (w : World) :
    Calls Try.prog 98 #[.int .i64 6, .int .i64 n] w fun e w' => e = .returned (.int .i64 (wrapW 6 n)) ∧ w = w' := by
  obtain ⟨m, hb, h0, h1, hm⟩ : ∃ m, n.tmod 64 = m ∧ -64 < m ∧ m < 64 ∧ Hid (m = n.tmod 64) := ⟨n.tmod 64, rfl, by have := Int.lt_tmod_of_pos n (show (0 : Int) < 64 by omega); omega, Int.tmod_lt_of_pos n (by omega), rfl⟩
  go_enter Try.func98, Try.ntmps98
  go_wp2_with (go_at_call 23; refine (isWidth_yes _ _ (by omega) (by omega)).mono ?_; rintro e w' ⟨rfl, rfl⟩)
  all_goals go_ret
  all_goals (refine ⟨ret_i ?_, rfl⟩; rw [wr_6]; have hm := hm.out; rw [Int.tmod_eq_emod] at hm; simp only [Int.bmod]; simp; split at hm <;> omega)
theorem wrap_7 (n : Int) (w : World) :
    Calls Try.prog 25 #[.int .i64 7, .int .i64 n] w fun e w' => e = .returned (.int .i64 (wrapW 7 n)) ∧ w = w' := by
  obtain ⟨m, hb, h0, h1, hm⟩ : ∃ m, bits .and .i64 n 127 = m ∧ 0 ≤ m ∧ m < 128 ∧ Hid (m = n % 128) := ⟨n % 128, bits_mask n 7 (by omega), by omega, by omega, rfl⟩
  go_enter Try.func25, Try.ntmps25
  go_wp2_with (go_at_call 95; refine (valid_yes _ _ (by omega) (by omega)).mono ?_; rintro e w' ⟨rfl, rfl⟩)
  all_goals go_ret
  all_goals (refine ⟨ret_i ?_, rfl⟩; rw [wr_7]; have hm := hm.out; simp only [Int.bmod]; simp; omega)
theorem rwrap_7 (n : Int) (w : World) :
    Calls Try.prog 98 #[.int .i64 7, .int .i64 n] w fun e w' => e = .returned (.int .i64 (wrapW 7 n)) ∧ w = w' := by
  obtain ⟨m, hb, h0, h1, hm⟩ : ∃ m, n.tmod 128 = m ∧ -128 < m ∧ m < 128 ∧ Hid (m = n.tmod 128) := ⟨n.tmod 128, rfl, by have := Int.lt_tmod_of_pos n (show (0 : Int) < 128 by omega); omega, Int.tmod_lt_of_pos n (by omega), rfl⟩
  go_enter Try.func98, Try.ntmps98
  go_wp2_with (go_at_call 23; refine (isWidth_yes _ _ (by omega) (by omega)).mono ?_; rintro e w' ⟨rfl, rfl⟩)
  all_goals go_ret
  all_goals (refine ⟨ret_i ?_, rfl⟩; rw [wr_7]; have hm := hm.out; rw [Int.tmod_eq_emod] at hm; simp only [Int.bmod]; simp; split at hm <;> omega)
theorem wrap_8 (n : Int) (w : World) :
    Calls Try.prog 25 #[.int .i64 8, .int .i64 n] w fun e w' => e = .returned (.int .i64 (wrapW 8 n)) ∧ w = w' := by
  obtain ⟨m, hb, h0, h1, hm⟩ : ∃ m, bits .and .i64 n 255 = m ∧ 0 ≤ m ∧ m < 256 ∧ Hid (m = n % 256) := ⟨n % 256, bits_mask n 8 (by omega), by omega, by omega, rfl⟩
  go_enter Try.func25, Try.ntmps25
  go_wp2_with (go_at_call 95; refine (valid_yes _ _ (by omega) (by omega)).mono ?_; rintro e w' ⟨rfl, rfl⟩)
  all_goals go_ret
  all_goals (refine ⟨ret_i ?_, rfl⟩; rw [wr_8]; have hm := hm.out; simp only [Int.bmod]; simp; omega)
theorem rwrap_8 (n : Int) (w : World) :
    Calls Try.prog 98 #[.int .i64 8, .int .i64 n] w fun e w' => e = .returned (.int .i64 (wrapW 8 n)) ∧ w = w' := by
  obtain ⟨m, hb, h0, h1, hm⟩ : ∃ m, n.tmod 256 = m ∧ -256 < m ∧ m < 256 ∧ Hid (m = n.tmod 256) := ⟨n.tmod 256, rfl, by have := Int.lt_tmod_of_pos n (show (0 : Int) < 256 by omega); omega, Int.tmod_lt_of_pos n (by omega), rfl⟩
  go_enter Try.func98, Try.ntmps98
  go_wp2_with (go_at_call 23; refine (isWidth_yes _ _ (by omega) (by omega)).mono ?_; rintro e w' ⟨rfl, rfl⟩)
  all_goals go_ret
  all_goals (refine ⟨ret_i ?_, rfl⟩; rw [wr_8]; have hm := hm.out; rw [Int.tmod_eq_emod] at hm; simp only [Int.bmod]; simp; split at hm <;> omega)

theorem wrap_any (a n : Int) (w : World) :
    Calls Try.prog 25 #[.int .i64 a, .int .i64 n] w fun e w' => e = .returned (.int .i64 (wrapW a n)) ∧ w = w' := by
  by_cases h : a < 2 ∨ 8 < a
  · exact wrap_out a n w h
  · rcases width_cases (w := a) (by omega) (by omega) with rfl | rfl | rfl | rfl | rfl | rfl | rfl
    · exact wrap_2 n w
    · exact wrap_3 n w
    · exact wrap_4 n w
    · exact wrap_5 n w
    · exact wrap_6 n w
    · exact wrap_7 n w
    · exact wrap_8 n w
theorem rwrap_any (a n : Int) (w : World) :
    Calls Try.prog 98 #[.int .i64 a, .int .i64 n] w fun e w' => e = .returned (.int .i64 (wrapW a n)) ∧ w = w' := by
  by_cases h : a < 2 ∨ 8 < a
  · exact rwrap_out a n w h
  · rcases width_cases (w := a) (by omega) (by omega) with rfl | rfl | rfl | rfl | rfl | rfl | rfl
    · exact rwrap_2 n w
    · exact rwrap_3 n w
    · exact rwrap_4 n w
    · exact rwrap_5 n w
    · exact rwrap_6 n w
    · exact rwrap_7 n w
    · exact rwrap_8 n w
end Go.Proofs.Ytgmcajojigedaaa
namespace Go.Proofs.Ytgmcajojigedaaa
theorem Try.info3 : (Try.prog.info? 3).map (fun i => (i.zero, i.size, i.bytes)) = some (some (.int .i64 0), 1, 8) := by kernel_rfl
theorem Try.info4 : (Try.prog.info? 4).map (fun i => (i.zero, i.size, i.bytes)) = some (some (.bool false), 1, 1) := by kernel_rfl
theorem Try.info24 : (Try.prog.info? 24).map (fun i => (i.zero, i.size, i.bytes)) = some (some (.slice none 0 0), 1, 24) := by kernel_rfl
theorem Try.info123 : (Try.prog.info? 123).map (fun i => (i.zero, i.size, i.bytes)) = some (some (.agg #[.int .i64 0, .int .i64 0]), 2, 16) := by kernel_rfl
end Go.Proofs.Ytgmcajojigedaaa
namespace Go.Proofs.Ytgmcajojigedaaa
open Go.RowKit

/-- A result, and no more than draws. -/
def RetDraw (v : Value) (w : World) (e : Ending) (w' : World) : Prop := e = .returned v ∧ ∃ n, w' = w.drewN n
theorem below_drewN {B : Nat} {a w : World} (h : Below B a w) (n : Nat) : Below B a (w.drewN n) := ⟨h.os, h.tape, h.output, h.size, h.block⟩
theorem drewN_add (w : World) (a b : Nat) : (w.drewN a).drewN b = w.drewN (a + b) := World.drewN_drewN w a b

def equalIB (xs ys : List Int) : Bool := decide (xs = ys)
set_option maxHeartbeats 400000 in
theorem equalI_any (xs ys : List Int) (A1 A2 : Option Addr) (c1 c2 B0 : Nat) (w : World) (h1 : SlI w B0 A1 c1 xs) (h2 : SlI w B0 A2 c2 ys) :
    Calls Try.prog 92 #[.slice A1 xs.length c1, .slice A2 ys.length c2] w (RetDraw (.bool (equalIB xs ys)) w) := by
  have hb1 := h1.big
  have hb2 := h2.big
  by_cases hl : xs.length = ys.length
  · have hd : ((xs.length : Int) != (ys.length : Int)) = false := by simp [hl]
    have HL := Lib.hid hl
    clear hl
    go_enter Try.func92, Try.ntmps92
    go_wp2
    go_loopw [5, 13] (fun _ i wr => ∃ k : Nat, k ≤ xs.length ∧ i = .int .i64 k ∧ (∀ j, j < k → xs[j]? = ys[j]?) ∧ ∃ n, wr = w.drewN n) (fun _ i _ => xs.length - (intOf i).toNat)
    case atStart => exact ⟨0, Nat.zero_le _, rfl, fun j h => by omega, 0, rfl⟩
    case round =>
      obtain ⟨k, hk, rfl, hall, n, rfl⟩ := hrel
      by_cases hlt : k < xs.length
      · obtain ⟨b1, o1, x, rfl, hx, hcx⟩ := h1.at_ hlt
        obtain ⟨b2, o2, y, rfl, hy, hcy⟩ := h2.at_ (k := k) (by have := HL.out; omega)
        have hltI : (k : Int) < (xs.length : Int) := by omega
        have hlt2 : (k : Int) < (ys.length : Int) := by have := HL.out; omega
        have hall' := Lib.hid hall
        have HX := Lib.hid hx
        have HY := Lib.hid hy
        clear hall hx hy h1 h2
        by_cases hxy : x = y
        · have hne : (x != y) = false := by simp [hxy]
          have HXY := Lib.hid hxy
          clear hxy
          go_wp2
          go_quiet (fail)
          go_wp2
          go_roundw
          case rel => exact ⟨k + 1, by omega, by go_num, fun j hj => by
            rcases Nat.lt_succ_iff_lt_or_eq.1 hj with h | rfl
            · exact hall'.out j h
            · rw [HX.out, HY.out, HXY.out], _, rfl⟩
          case measure => simp [intOf]; omega
        · have hne : (x != y) = true := by simp [hxy]
          have hfin : equalIB xs ys = false := decide_eq_false fun h => by
            have e1 := HX.out
            rw [h, HY.out] at e1
            exact hxy (by cases e1; rfl)
          have HF := Lib.hid hfin
          clear hxy hfin
          go_wp2
          go_quiet (fail)
          go_wp2
          go_ret
          exact ⟨by rw [HF.out]; rfl, _, World.drewN_drewN _ _ _⟩
      · have hfin : equalIB xs ys = true := decide_eq_true (List.ext_getElem? fun j => by
          by_cases hj : j < k
          · exact hall j hj
          · have := HL.out
            rw [List.getElem?_eq_none (by omega), List.getElem?_eq_none (by omega)])
        have HF := Lib.hid hfin
        clear hfin hall
        go_wp2
        go_ret
        exact ⟨by rw [HF.out]; rfl, _, rfl⟩
  · have hd : ((xs.length : Int) != (ys.length : Int)) = true := by rw [bne_iff_ne]; omega
    have hfin : equalIB xs ys = false := decide_eq_false fun h => hl (by rw [h])
    have HF := Lib.hid hfin
    clear hl hfin
    go_enter Try.func92, Try.ntmps92
    go_wp2
    go_ret
    exact ⟨by rw [HF.out]; rfl, 0, rfl⟩

def equalBB (xs ys : List Bool) : Bool := decide (xs = ys)
set_option maxHeartbeats 400000 in
theorem equalB_any (xs ys : List Bool) (A1 A2 : Option Addr) (c1 c2 B0 : Nat) (w : World) (h1 : SlB w B0 A1 c1 xs) (h2 : SlB w B0 A2 c2 ys) :
    Calls Try.prog 28 #[.slice A1 xs.length c1, .slice A2 ys.length c2] w (RetDraw (.bool (equalBB xs ys)) w) := by
  have hb1 := h1.big
  have hb2 := h2.big
  by_cases hl : xs.length = ys.length
  · have hd : ((xs.length : Int) != (ys.length : Int)) = false := by simp [hl]
    have HL := Lib.hid hl
    clear hl
    go_enter Try.func28, Try.ntmps28
    go_wp2
    go_loopw [5, 13] (fun _ i wr => ∃ k : Nat, k ≤ xs.length ∧ i = .int .i64 k ∧ (∀ j, j < k → xs[j]? = ys[j]?) ∧ ∃ n, wr = w.drewN n) (fun _ i _ => xs.length - (intOf i).toNat)
    case atStart => exact ⟨0, Nat.zero_le _, rfl, fun j h => by omega, 0, rfl⟩
    case round =>
      obtain ⟨k, hk, rfl, hall, n, rfl⟩ := hrel
      by_cases hlt : k < xs.length
      · obtain ⟨b1, o1, x, rfl, hx, hcx⟩ := h1.at_ hlt
        obtain ⟨b2, o2, y, rfl, hy, hcy⟩ := h2.at_ (k := k) (by have := HL.out; omega)
        have hltI : (k : Int) < (xs.length : Int) := by omega
        have hlt2 : (k : Int) < (ys.length : Int) := by have := HL.out; omega
        have hall' := Lib.hid hall
        have HX := Lib.hid hx
        have HY := Lib.hid hy
        clear hall hx hy h1 h2
        by_cases hxy : x = y
        · have hne : (!(x == y)) = false := by simp [hxy]
          have HXY := Lib.hid hxy
          clear hxy
          go_wp2
          go_quiet (fail)
          go_wp2
          go_roundw
          case rel => exact ⟨k + 1, by omega, by go_num, fun j hj => by
            rcases Nat.lt_succ_iff_lt_or_eq.1 hj with h | rfl
            · exact hall'.out j h
            · rw [HX.out, HY.out, HXY.out], _, rfl⟩
          case measure => simp [intOf]; omega
        · have hne : (!(x == y)) = true := by simp [hxy]
          have hfin : equalBB xs ys = false := decide_eq_false fun h => by
            have e1 := HX.out
            rw [h, HY.out] at e1
            exact hxy (by cases e1; rfl)
          have HF := Lib.hid hfin
          clear hxy hfin
          go_wp2
          go_quiet (fail)
          go_wp2
          go_ret
          exact ⟨by rw [HF.out]; rfl, _, World.drewN_drewN _ _ _⟩
      · have hfin : equalBB xs ys = true := decide_eq_true (List.ext_getElem? fun j => by
          by_cases hj : j < k
          · exact hall j hj
          · have := HL.out
            rw [List.getElem?_eq_none (by omega), List.getElem?_eq_none (by omega)])
        have HF := Lib.hid hfin
        clear hfin hall
        go_wp2
        go_ret
        exact ⟨by rw [HF.out]; rfl, _, rfl⟩
  · have hd : ((xs.length : Int) != (ys.length : Int)) = true := by rw [bne_iff_ne]; omega
    have hfin : equalBB xs ys = false := decide_eq_false fun h => hl (by rw [h])
    have HF := Lib.hid hfin
    clear hl hfin
    go_enter Try.func28, Try.ntmps28
    go_wp2
    go_ret
    exact ⟨by rw [HF.out]; rfl, 0, rfl⟩
end Go.Proofs.Ytgmcajojigedaaa
namespace Go.Proofs.Ytgmcajojigedaaa
open Go.RowKit Go.Maps
open Go.ChangeMaps (setBlock heap_setBlock_same heap_setBlock_other)

theorem Try.laidOut : laidOutB Try.prog = true := by kernel_rfl

/-- Each key of the entries is a key of type k. -/
def KeysOk (P : Program) (k : TypeId) (es : List MapEntry) : Prop := ∀ x ∈ es, ∃ l, keyOf P k x.key = some l

section
variable {P : Program} {k e t : TypeId} {w : World} {b : Nat} {es : List MapEntry} {clock : Nat}

/-- 'm[k]', 'v, ok := m[k]'. -/
theorem run_lookup_at (K : Keyed P k) (c : Bool) (ht : P.underlying t = some (.map k e)) {z : Value} (hz : (zeroValue e).run P w = .ok z w) (hb : w.heap[b]? = some (.map es.toArray clock)) (hk : KeysOk P k es)
    {key : Value} {kl : Lit} (hkey : keyOf P k key = some kl) :
    ((Instr.lookup t (.map (some b)) key c).run P w = .ok (if c then .tuple #[z, .bool false] else z) w ∧ ∀ x ∈ es, x.key ≠ key) ∨
    ∃ (j : Nat) (x : MapEntry), es[j]? = some x ∧ x.key = key ∧ (Instr.lookup t (.map (some b)) key c).run P w = .ok (if c then .tuple #[x.val, .bool true] else x.val) w := by
  rcases K.find w hkey es hk with ⟨h1, h2⟩ | ⟨j, e0, h1, h2, h3⟩
  · exact .inl ⟨by simp [Instr.lookup, run_underlying ht, MapKept.run_getObj_map hb, K.check w _ hkey, h1, hz, Result.andThen], h2⟩
  · exact .inr ⟨j, e0, h2, h3, by simp [Instr.lookup, run_underlying ht, MapKept.run_getObj_map hb, K.check w _ hkey, h1, Result.andThen]⟩

/-- 'm[k] = v' at a key that is not there. -/
theorem run_update_new (K : Keyed P k) (ht : P.underlying t = some (.map k e)) (hb : w.heap[b]? = some (.map es.toArray clock)) (hk : KeysOk P k es)
    {key val : Value} {kl : Lit} (hkey : keyOf P k key = some kl) (hnew : ∀ x ∈ es, x.key ≠ key) :
    (Instr.mapUpdate t (.map (some b)) key val).run P w = .ok () (setBlock w b (.map (es ++ [MapEntry.mk key val clock]).toArray (clock + 1))) := by
  rcases K.find w hkey es hk with ⟨h1, h2⟩ | ⟨j, e0, h1, h2, h3⟩
  · simp [Instr.mapUpdate, run_underlying ht, MapKept.run_getObj_map hb, K.check w false hkey, h1, MapKept.run_setObj_map _ hb, Result.andThen, setBlock]
  · exact absurd h3 (hnew e0 (List.mem_of_getElem? h2))

/-- 'm[k] = v' at a key that is there. -/
theorem run_update_old (K : Keyed P k) (ht : P.underlying t = some (.map k e)) (hb : w.heap[b]? = some (.map es.toArray clock)) (hk : KeysOk P k es)
    {key val : Value} {kl : Lit} (hkey : keyOf P k key = some kl) {j : Nat} {x : MapEntry} (hj : es[j]? = some x) (hx : x.key = key) (huniq : ∀ (i : Nat) (y : MapEntry), es[i]? = some y → y.key = key → i = j) :
    (Instr.mapUpdate t (.map (some b)) key val).run P w = .ok () (setBlock w b (.map (es.set j { x with val := val }).toArray clock)) := by
  rcases K.find w hkey es hk with ⟨h1, h2⟩ | ⟨i, e0, h1, h2, h3⟩
  · exact absurd hx (h2 x (List.mem_of_getElem? hj))
  · obtain rfl := huniq i e0 h2 h3
    rw [hj] at h2
    cases h2
    have hmod : (es.modify i fun e => { key := key, val := val, born := e.born }) = es.set i { key := key, val := val, born := x.born } := ChangeMaps.modify_eq_set _ _ _ _ hj
    simp [Instr.mapUpdate, run_underlying ht, MapKept.run_getObj_map hb, K.check w false hkey, h1, hj, hx, K.stays w hkey, MapKept.run_setObj_map _ hb, Result.andThen, setBlock, hmod]

/-- The two halves of 'm[k] = v' at a key that is not there. -/
theorem run_entry_new (K : Keyed P k) (ht : P.underlying t = some (.map k e)) {z : Value} (hz : (zeroValue e).run P w = .ok z w) (hb : w.heap[b]? = some (.map es.toArray clock)) (hk : KeysOk P k es)
    {key : Value} {kl : Lit} (hkey : keyOf P k key = some kl) (hnew : ∀ x ∈ es, x.key ≠ key) :
    (Instr.mapEntry t (.map (some b)) key).run P w = .ok (.tuple #[z, goInt clock]) (setBlock w b (.map (es ++ [MapEntry.mk key z clock]).toArray (clock + 1))) := by
  rcases K.find w hkey es hk with ⟨h1, h2⟩ | ⟨j, e0, h1, h2, h3⟩
  · simp [Instr.mapEntry, run_underlying ht, MapKept.run_getObj_map hb, K.check w false hkey, h1, hz, MapKept.run_setObj_map _ hb, Result.andThen, setBlock]
  · exact absurd h3 (hnew e0 (List.mem_of_getElem? h2))
theorem findIdx_last (p : MapEntry → Bool) (x : MapEntry) : ∀ l : List MapEntry, (∀ y ∈ l, p y = false) → p x = true → (l ++ [x]).findIdx? p = some l.length
  | [], _, hx => by simp [hx]
  | y :: r, hl, hx => by
    have h1 := hl y (by simp)
    simp [List.findIdx?_cons, h1, findIdx_last p x r (fun z hz => hl z (by simp [hz])) hx]
theorem run_store_new {key z val : Value} (hb : w.heap[b]? = some (.map (es ++ [MapEntry.mk key z clock]).toArray (clock + 1))) (hs : ∀ x ∈ es, x.born < clock) :
    (Instr.entryStore t (.map (some b)) (goInt clock) val).run P w = .ok () (setBlock w b (.map (es ++ [MapEntry.mk key val clock]).toArray (clock + 1))) := by
  have hidx : (es ++ [MapEntry.mk key z clock]).toArray.findIdx? (fun e => ((e.born : Nat) : Int) == ((clock : Nat) : Int)) = some es.length := by
    rw [WideElems.findIdx_arr]
    refine findIdx_last _ _ es (fun y hy => ?_) (by simp)
    have := hs y hy
    simp; omega
  have hmod : (es ++ [MapEntry.mk key z clock]).toArray.modify es.length (fun e => { e with val := val }) = (es ++ [MapEntry.mk key val clock]).toArray := by
    apply Array.ext'
    rw [Array.toList_modify]
    exact WideElems.modify_last _ _ _
  simp [Instr.entryStore, MapKept.run_getObj_map hb, asInt, asIntOf, goInt, hidx, hmod, MapKept.run_setObj_map _ hb, Result.andThen, setBlock]
end

/-! ### The keys -/
theorem Try.size_pos : ∃ m, Try.prog.types.size = m + 3 := by
  have h : 3 ≤ Try.prog.types.size := of_decide_eq_true (by kernel_rfl)
  exact ⟨Try.prog.types.size - 3, by omega⟩
theorem law3 : Keyed Try.prog 3 := int_keyed Try.underlying3
theorem zero3 (w : World) : (zeroValue 3).run Try.prog w = .ok (.int .i64 0) w := by kernel_rfl
theorem zero4 (w : World) : (zeroValue 4).run Try.prog w = .ok (.bool false) w := by kernel_rfl

theorem cells3 : Try.prog.cellsOf 3 = 1 := by kernel_rfl
theorem cells123 : Try.prog.cellsOf 123 = 2 := by kernel_rfl
theorem law123 : Keyed Try.prog 123 := Keyed.of_law (deep_law_laid Try.laidOut (m := 2) (by omega) (of_decide_eq_true (by kernel_rfl)) (by kernel_rfl) (by kernel_rfl))
theorem key123 {a b : Int} (ha : (Lit.int .i64 a).wf = true) (hb : (Lit.int .i64 b).wf = true) : ∃ l, keyOf Try.prog 123 (.agg #[.int .i64 a, .int .i64 b]) = some l := by
  obtain ⟨m, hm⟩ := Try.size_pos
  have h1 : Try.prog.keyType 123 = true := by kernel_rfl
  have h2 : (Value.agg #[.int .i64 a, .int .i64 b]).formed Try.prog 123 = true := by simp [Value.formed, Try.underlying123, cells123]
  simp [keyOf, Try.underlying123, h1, h2, hm, Program.keyLits, Value.cells, cells123, cells3, Try.underlying3, ha, hb, List.range_succ]
end Go.Proofs.Ytgmcajojigedaaa
namespace Go.Proofs.Ytgmcajojigedaaa

/-- Does operation j wait for operation i, by an edge of its own? -/
def waitsB (ops : Array Oper) (j i : Nat) : Bool :=
  match ops[j]? with
  | some o => o.after.any fun e => Region.binds .any e && e.on == i
  | none => false

/-- What quiet operation i asks of the world: nothing, if it is not listed. -/
def asksOf (sq : List (Nat × (World → Prop))) (i : Nat) (w : World) : Prop := ∀ p ∈ sq, p.1 = i → p.2 w
/-- What is owed behind operation j: a loud one owes what those read that do not wait for it; a quiet one leaves the world as it is. -/
def Owes (ops : Array Oper) (loud : List Nat) (sq : List (Nat × (World → Prop))) (j : Nat) (w w' : World) : Prop :=
  if loud.contains j = true then ∀ p ∈ sq, waitsB ops j p.1 = false → p.2 w' else w' = w

section
variable {P : Program} {ops : Array Oper} {Q : Exit → Act → World → Prop} {loud : List Nat} {sq : List (Nat × (World → Prop))}

def wpG (P : Program) (ops : Array Oper) (Q : Exit → Act → World → Prop) (loud : List Nat) (sq : List (Nat × (World → Prop))) : Nat → Array Bool → Act → World → Prop
  | 0, listed, a, w => Region.ready .any ops listed = [] ∧ Q .normal a w
  | fuel + 1, listed, a, w =>
    (Region.ready .any ops listed = [] → Q .normal a w) ∧
    ∀ i ∈ Region.ready .any ops listed, wpOp P ops Q i (fun a' w' => Owes ops loud sq i w w' ∧ wpG P ops Q loud sq fuel (listed.setIfInBounds i true) a' w') a w

theorem wpAny_of_wpG : ∀ (fuel : Nat) (listed : Array Bool) (a : Act) (w : World), wpG P ops Q loud sq fuel listed a w → wpAny P .any ops Q fuel listed a w
  | 0, _, _, _, h => h
  | fuel + 1, _, _, _, h => ⟨h.1, fun i hi => wpOp_mono (fun a' w' h' => wpAny_of_wpG fuel _ a' w' h'.2) (h.2 i hi)⟩

theorem wpG_first {i : Nat} {oi : Oper} {v : Value} (hi : ops[i]? = some oi) (hsel : ∀ (j : Nat) (o : Oper) cs b, ops[j]? = some o → o.op ≠ .select cs b)
    (hQ : ∀ c a w, Q (.panic c) (a.put oi.dst v) w → Q (.panic c) a w) (hq : loud.contains i = false) :
    ∀ (fuel : Nat) (listed : Array Bool) (a : Act) (w : World),
      (∀ j oj, ops[j]? = some oj → j ≠ i → listed.getD j true = false → (∀ e ∈ oj.after, Region.binds .any e = true → e.on ≠ i) → oi.apart ops oj = true) →
      i ∈ Region.ready .any ops listed → YieldsIf P ops (asksOf sq i) oi v a → asksOf sq i w →
      wpG P ops Q loud sq fuel (listed.setIfInBounds i true) (a.put oi.dst v) w → wpG P ops Q loud sq (fuel + 1) listed a w := by
  have own : ∀ w, Owes ops loud sq i w w := fun w => by unfold Owes; rw [hq]; rfl
  intro fuel
  induction fuel with
  | zero =>
    intro listed a w _ hr hy hS H
    refine ⟨fun h => (by rw [h] at hr; cases hr), fun j hj => ?_⟩
    by_cases hji : j = i
    · subst hji; exact hy.wpOp hi hS ⟨own w, H⟩
    · have h0 := ready_mono hj hji
      rw [H.1] at h0
      cases h0
  | succ fuel ih =>
    intro listed a w hfree hr hy hS H
    refine ⟨fun h => (by rw [h] at hr; cases hr), fun j hj => ?_⟩
    by_cases hji : j = i
    · subst hji; exact hy.wpOp hi hS ⟨own w, H⟩
    have h1 := H.2 j (ready_mono hj hji)
    obtain ⟨hjun, oj, hoj, hall⟩ := mem_ready.1 hj
    have hiun := (mem_ready.1 hr).1
    have hnot : ∀ e ∈ oj.after, Region.binds .any e = true → e.on ≠ i := fun e he hb heq => by
      have h2 := hall e he hb
      rw [heq] at h2
      rcases Nat.lt_or_ge i listed.size with h' | h'
      · simp [h'] at hiun h2; rw [hiun] at h2; cases h2
      · simp [Array.getElem?_eq_none h'] at h2
    have hw : waitsB ops j i = false := by
      unfold waitsB
      rw [hoj, Bool.eq_false_iff]
      intro ht
      obtain ⟨e, he, hb⟩ := Array.any_eq_true'.1 ht
      simp only [Bool.and_eq_true, beq_iff_eq] at hb
      exact hnot e he hb.1 hb.2
    have h2 := wpOp_putIf hoj (hfree j oj hoj hji hjun hnot) (fun cs b => hsel i oi cs b hi) (fun cs b => hsel j oj cs b hoj) hQ hy h1
    have hfree' : ∀ k ok, ops[k]? = some ok → k ≠ i → (listed.setIfInBounds j true).getD k true = false →
        (∀ e ∈ ok.after, Region.binds .any e = true → e.on ≠ i) → oi.apart ops ok = true := fun k ok hk hki hun hno => by
      refine hfree k ok hk hki ?_ hno
      by_cases hjk : j = k
      · subst hjk; exact hjun
      · rw [getD_set_ne true hjk] at hun; exact hun
    refine wpOp_mono (fun a' w' h3 => ?_) h2
    obtain ⟨hy', ho, hrest⟩ := h3
    refine ⟨ho, ih (listed.setIfInBounds j true) a' w' hfree' (ready_mono hr (Ne.symm hji)) hy' ?_ (by rw [Array.setIfInBounds_comm _ _ hji]; exact hrest)⟩
    unfold Owes at ho
    by_cases hl : loud.contains j = true
    · rw [if_pos hl] at ho
      exact fun p hp hpi => ho p hp (by rw [hpi]; exact hw)
    · rw [if_neg hl] at ho
      subst ho
      exact hS

/-- Take quiet operation number i first. -/
theorem wpG_take {i : Nat} {oi : Oper} {v : Value} {fuel : Nat} {listed : Array Bool} {a : Act} {w : World} (hi : ops[i]? = some oi)
    (hs : Region.noSelect ops = true) (hq : loud.contains i = false) (hf : Region.free .any ops listed i = true) (hr : (Region.ready .any ops listed).contains i = true)
    (hQ : ∀ c a w, Q (.panic c) (a.put oi.dst v) w → Q (.panic c) a w) (hg : Region.wanted oi (yielded ops a.tmps) = true)
    (hy : ∀ w, asksOf sq i w → (execOp a.eval oi).run P w = .ok (.value v) w) (hS : asksOf sq i w)
    (h : wpG P ops Q loud sq fuel (listed.setIfInBounds i true) (a.put oi.dst v) w) : wpG P ops Q loud sq (fuel + 1) listed a w :=
  wpG_first hi (Region.noSelect_spec hs) hQ hq fuel listed a w (Region.free_spec hi hf) (by simpa using hr) (.inl ⟨hg, hy⟩) hS h
/-- A quiet operation whose guard says no. -/
theorem wpG_pass {i : Nat} {oi : Oper} {fuel : Nat} {listed : Array Bool} {a : Act} {w : World} (hi : ops[i]? = some oi)
    (hs : Region.noSelect ops = true) (hq : loud.contains i = false) (hf : Region.free .any ops listed i = true) (hr : (Region.ready .any ops listed).contains i = true)
    (hQ : ∀ c a w, Q (.panic c) (a.put oi.dst undef) w → Q (.panic c) a w) (hg : Region.wanted oi (yielded ops a.tmps) = false) (hS : asksOf sq i w)
    (h : wpG P ops Q loud sq fuel (listed.setIfInBounds i true) (a.put oi.dst undef) w) : wpG P ops Q loud sq (fuel + 1) listed a w :=
  wpG_first hi (Region.noSelect_spec hs) hQ hq fuel listed a w (Region.free_spec hi hf) (by simpa using hr) (.inr ⟨hg, rfl⟩) hS h
/-- A loud operation: the only one that may come up now. -/
theorem wpG_loud {i : Nat} {oi : Oper} {fuel : Nat} {listed : Array Bool} {a : Act} {w : World} (hi : ops[i]? = some oi) (hg : Region.wanted oi (yielded ops a.tmps) = true) (hl : loud.contains i = true)
    (hr : Region.ready .any ops listed = [i]) (h : ∀ K : Act → World → Prop, (∀ a' w', (∀ p ∈ sq, waitsB ops i p.1 = false → p.2 w') → wpG P ops Q loud sq fuel (listed.setIfInBounds i true) a' w' → K a' w') → oi.wp P a w K Q) :
    wpG P ops Q loud sq (fuel + 1) listed a w := by
  refine ⟨fun h0 => (by rw [h0] at hr; cases hr), fun j hj => ?_⟩
  rw [hr, List.mem_singleton] at hj
  subst hj
  unfold wpOp
  simp only [hi]
  rw [if_pos hg]
  exact .inl (h _ fun a' w' ho hrest => ⟨by unfold Owes; rw [if_pos hl]; exact ho, hrest⟩)
theorem wpG_done {listed : Array Bool} {a : Act} {w : World} (hr : Region.ready .any ops listed = []) (h : Q .normal a w) : wpG P ops Q loud sq 0 listed a w := ⟨hr, h⟩
theorem asks_none {i : Nat} (h : (sq.map (·.1)).contains i = false) (w : World) : asksOf sq i w := fun p hp hpi => by
  rw [Bool.eq_false_iff] at h
  exact absurd (by rw [← hpi]; simp only [List.contains_iff_mem]; exact List.mem_map_of_mem hp) h
/-- The beginning. -/
theorem wp_region_G (loud : List Nat) (sq : List (Nat × (World → Prop))) {id : Nat} {a : Act} {w : World} (hm : P.follows .mixedOrders = true)
    (h : wpG P ops Q loud sq ops.size (Array.replicate ops.size false) a w.drew) : (Code.region id ops true).wp P Q a w :=
  wp_region_any hm (wpAny_of_wpG _ _ _ _ h)
end
end Go.Proofs.Ytgmcajojigedaaa
