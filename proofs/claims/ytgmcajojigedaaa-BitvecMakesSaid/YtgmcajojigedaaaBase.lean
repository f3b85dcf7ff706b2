/- Words on memory for this seat: frames, slices that read as lists, maps that hold exactly known entries. No program is named here. -/
import Derived.WalkKit
import Derived.WalkSpells
import Derived.WalkLawsBesides
import Derived.Lib.Hide
import Derived.Deep.AppendLies
import Derived.Deep.QuietTactic
import Derived.BigQuiet
import Derived.Deep.Draws
import Derived.Maps.OwnSet
set_option linter.unusedSimpArgs false
set_option linter.unusedVariables false
namespace Go.Proofs.Ytgmcajojigedaaa
open Go.RowKit

/-- May a block turn? A row of cells whose type is listed; a map whose number is listed. -/
def turns (ts ms : List Nat) (k : Nat) : Obj → Prop
  | .cells _ t _ => t ∈ ts
  | .map _ _ => k ∈ ms
  | _ => False

/-- w' is w but for new blocks and, from block B0 on, rows of the listed types and the listed maps. -/
structure Fr (B0 : Nat) (ts ms : List Nat) (w w' : World) : Prop where
  os : w'.os = w.os
  tape : w'.tape = w.tape
  output : w'.output = w.output
  size : w.heap.size ≤ w'.heap.size
  block : ∀ k o, w.heap[k]? = some o → ¬ (B0 ≤ k ∧ turns ts ms k o) → w'.heap[k]? = some o

section
variable {B0 : Nat} {ts ms : List Nat} {w w1 w' w'' : World}

theorem Fr.refl (B0 : Nat) (ts ms : List Nat) (w : World) : Fr B0 ts ms w w := ⟨rfl, rfl, rfl, Nat.le_refl _, fun _ _ h _ => h⟩
theorem Fr.trans (h : Fr B0 ts ms w w') (k : Fr B0 ts ms w' w'') : Fr B0 ts ms w w'' :=
  ⟨k.os.trans h.os, k.tape.trans h.tape, k.output.trans h.output, Nat.le_trans h.size k.size, fun i o hi hn => k.block i o (h.block i o hi hn) hn⟩
theorem turns.mono {ts' ms' : List Nat} (ht : ∀ x, x ∈ ts → x ∈ ts') (hm : ∀ x, x ∈ ms → x ∈ ms') {k : Nat} {o : Obj} (h : turns ts ms k o) : turns ts' ms' k o := by
  cases o <;> simp only [turns] at h ⊢
  · exact ht _ h
  · exact hm _ h
theorem Fr.mono {ts' ms' : List Nat} (h : Fr B0 ts ms w w') (ht : ∀ x, x ∈ ts → x ∈ ts') (hm : ∀ x, x ∈ ms → x ∈ ms') : Fr B0 ts' ms' w w' :=
  ⟨h.os, h.tape, h.output, h.size, fun k o hk hn => h.block k o hk fun ⟨a, b⟩ => hn ⟨a, b.mono ht hm⟩⟩
theorem some_of_lt {w : World} {k : Nat} (h : k < w.heap.size) : ∃ o, w.heap[k]? = some o := ⟨w.heap[k], Array.getElem?_eq_getElem h⟩
theorem lt_of_some {w : World} {k : Nat} {o : Obj} (h : w.heap[k]? = some o) : k < w.heap.size := (Array.getElem?_eq_some_iff.1 h).1
theorem Fr.of_below (h : Below w.heap.size w w') : Fr B0 ts ms w w' :=
  ⟨h.os, h.tape, h.output, h.size, fun k _ hk _ => (h.block k (lt_of_some hk)).trans hk⟩
theorem Fr.below (h : Fr B0 ts ms w w') (hB : B0 ≤ w.heap.size) : Below B0 w w' :=
  ⟨h.os, h.tape, h.output, h.size, fun k hk => by
    obtain ⟨o, ho⟩ := some_of_lt (w := w) (k := k) (by omega)
    exact (h.block k o ho (fun ⟨a, _⟩ => by omega)).trans ho.symm⟩
theorem Fr.alloc (h : Fr B0 ts ms w w') (o : Obj) : Fr B0 ts ms w (w'.alloc o) := h.trans (.of_below ((Below.refl _ _).alloc (Nat.le_refl _) o))
theorem Fr.drew (h : Fr B0 ts ms w w') : Fr B0 ts ms w w'.drew := ⟨h.os, h.tape, h.output, h.size, h.block⟩
theorem Fr.drewN (h : Fr B0 ts ms w w') (n : Nat) : Fr B0 ts ms w (w'.drewN n) := ⟨h.os, h.tape, h.output, h.size, h.block⟩
theorem Fr.setCell (h : Fr B0 ts ms w w') {p : Addr} {cs : Array Value} {t : TypeId} {f : Nat × Nat} (hp : w'.heap[p.block]? = some (.cells cs t f)) (ht : t ∈ ts) (hB : B0 ≤ p.block) (u : Value) : Fr B0 ts ms w (w'.setCell p u) :=
  h.trans ⟨rfl, rfl, rfl, by simp [World.setCell], fun k o hk hn => by
    rw [Below.heap_setCell _ _ _ _ (fun e => ?_)]; exact hk
    subst e
    rw [hp] at hk
    cases hk
    exact hn ⟨hB, ht⟩⟩
theorem Fr.grown (h : Fr B0 ts ms w w') {row : Option Nat} (hg : w'.grownBy w'' row) (hr : ∀ g o, row = some g → w'.heap[g]? = some o → B0 ≤ g ∧ turns ts ms g o) : Fr B0 ts ms w w'' :=
  h.trans ⟨hg.os, hg.tape, hg.output, hg.size, fun k o hk hn => by
    rw [hg.block k (lt_of_some hk) (fun e => hn (hr k o e.symm hk))]; exact hk⟩
theorem Below.grown_fresh {B : Nat} {row : Option Nat} (h : Below B w w') (hg : w'.grownBy w'' row) (hB : B ≤ w'.heap.size) (hr : ∀ k, row = some k → B ≤ k) : Below B w w'' := h.grown hg hB hr
end

/-- The numbers xs lie behind the slice value '.slice A xs.length c': in memory that was there (below B0), or in a row of elements of type e. -/
def SlOf {α : Type} (F : α → Value) (e : Nat) (w : World) (B0 : Nat) (A : Option Addr) (c : Nat) (xs : List α) : Prop :=
  xs.length ≤ c ∧ c ≤ 9223372036854775807 ∧ (0 < xs.length → ∃ b o, A = some ⟨b, o, none⟩ ∧ (b < B0 ∨ ∃ cs f, w.heap[b]? = some (.cells cs e f)) ∧ ∀ (k : Nat) (x : α), xs[k]? = some x → w.cell? ⟨b, o + k, none⟩ = some (F x))

section
variable {α : Type} {F : α → Value} {e : Nat} {w w' : World} {B0 B1 : Nat} {A : Option Addr} {c : Nat} {xs : List α}

theorem SlOf.le (h : SlOf F e w B0 A c xs) : xs.length ≤ c := h.1
theorem SlOf.big (h : SlOf F e w B0 A c xs) : xs.length ≤ 9223372036854775807 := Nat.le_trans h.1 h.2.1
theorem SlOf.at_ (h : SlOf F e w B0 A c xs) {k : Nat} (hk : k < xs.length) : ∃ b o x, A = some ⟨b, o, none⟩ ∧ xs[k]? = some x ∧ w.cell? ⟨b, o + k, none⟩ = some (F x) := by
  obtain ⟨b, o, rfl, _, hc⟩ := h.2.2 (by omega)
  have hx : xs[k]? = some xs[k] := List.getElem?_eq_getElem hk
  exact ⟨b, o, xs[k], rfl, hx, hc k _ hx⟩
theorem cell_lt {w : World} {a : Addr} {v : Value} (h : w.cell? a = some v) : a.block < w.heap.size := World.block_lt_of_cell? w a h
theorem SlOf.keep (h : SlOf F e w B0 A c xs) (hk : ∀ b, b < w.heap.size → (b < B0 ∨ ∃ cs f, w.heap[b]? = some (.cells cs e f)) → w'.heap[b]? = w.heap[b]?) : SlOf F e w' B0 A c xs := by
  refine ⟨h.1, h.2.1, fun hn => ?_⟩
  obtain ⟨b, o, rfl, ht, hc⟩ := h.2.2 hn
  have hb : b < w.heap.size := by
    have := hc 0 _ (List.getElem?_eq_getElem hn)
    exact cell_lt this
  have e1 := hk b hb ht
  exact ⟨b, o, rfl, ht.imp id (fun ⟨cs, f, h⟩ => ⟨cs, f, by rw [e1]; exact h⟩), fun k x hx => (World.cell?_of_block (w := w) e1).trans (hc k x hx)⟩
theorem SlOf.fr {ts ms : List Nat} (h : SlOf F e w B0 A c xs) (hf : Fr B0 ts ms w w') (he : e ∉ ts) : SlOf F e w' B0 A c xs := by
  refine h.keep fun b hb ht => ?_
  obtain ⟨o, ho⟩ := some_of_lt hb
  rw [ho]
  refine hf.block b o ho fun ⟨h1, h2⟩ => ?_
  rcases ht with ht | ⟨cs, f, ht⟩
  · omega
  · rw [ht] at ho; cases ho; exact he h2
theorem SlOf.below (h : SlOf F e w B0 A c xs) (hb : Below w.heap.size w w') : SlOf F e w' B0 A c xs := h.keep fun b hb' _ => hb.block b hb'
theorem SlOf.alloc (h : SlOf F e w B0 A c xs) (o : Obj) : SlOf F e (w.alloc o) B0 A c xs := h.below ((Below.refl _ _).alloc (Nat.le_refl _) o)
theorem SlOf.drew (h : SlOf F e w B0 A c xs) : SlOf F e w.drew B0 A c xs := h
theorem SlOf.drewN (h : SlOf F e w B0 A c xs) (n : Nat) : SlOf F e (w.drewN n) B0 A c xs := h
theorem SlOf.nil (w : World) (B0 : Nat) : SlOf F e w B0 none 0 [] := ⟨Nat.le_refl _, by omega, fun h => absurd h (by simp)⟩
theorem SlOf.more (h : SlOf F e w B0 A c xs) (hB : B0 ≤ B1) : SlOf F e w B1 A c xs :=
  ⟨h.1, h.2.1, fun hn => let ⟨b, o, h1, h2, h3⟩ := h.2.2 hn; ⟨b, o, h1, h2.imp (fun h => by omega) id, h3⟩⟩
/-- What a call owns reads as a list. -/
theorem SlOf.of_own {base n : Nat} {v : Value} (h : w.ownsRow base e 1 v n (xs.map F)) : ∃ A c, v = .slice A xs.length c ∧ n = xs.length ∧ SlOf F e w B0 A c xs := by
  have hn : n = xs.length := by have := h.1; simp at this; omega
  subst hn
  rcases h.2 with ⟨rfl, h0⟩ | ⟨g, cap, cur, rfl, _, hg, h1, h2, h3, h4⟩
  · exact ⟨none, 0, by rw [h0], rfl, by omega, by omega, fun hn => by omega⟩
  · refine ⟨_, _, rfl, rfl, h1, h2, fun hn => ⟨g, 0, rfl, .inr ⟨cur, _, hg⟩, fun k x hx => ?_⟩⟩
    have := h.cells (g := g) rfl k (F x) (by simp [hx])
    rw [Addr.add_lit] at this
    exact this
end

/-- 'v' is a slice of the call's own (from block B on) that holds the list xs: nil, or at the head of a row of elements of type e. -/
def OwnOf {α : Type} (F : α → Value) (e : Nat) (w : World) (B : Nat) (v : Value) (xs : List α) : Prop := w.ownsRow B e 1 v xs.length (xs.map F)

section
variable {α : Type} {F : α → Value} {e : Nat} {w w' : World} {B : Nat} {v : Value} {xs : List α}
theorem OwnOf.nil (w : World) (B : Nat) : OwnOf F e w B (.slice none 0 0) [] := World.ownsRow_nil w B e 1
theorem OwnOf.kept {row : Option Nat} (h : OwnOf F e w B v xs) (hg : w.grownBy w' row) (hne : v.ownBlock = none ∨ v.ownBlock ≠ row) : OwnOf F e w' B v xs := World.ownsRow.kept h hg hne
theorem grown_of_below (h : Below w.heap.size w w') : w.grownBy w' none := ⟨h.os, h.tape, h.output, h.size, fun k hk _ => h.block k hk⟩
theorem OwnOf.below (h : OwnOf F e w B v xs) (hb : Below w.heap.size w w') : OwnOf F e w' B v xs := h.kept (grown_of_below hb) (by cases v.ownBlock <;> simp)
theorem OwnOf.alloc (h : OwnOf F e w B v xs) (o : Obj) : OwnOf F e (w.alloc o) B v xs := World.ownsRow.alloc h o
theorem OwnOf.drew (h : OwnOf F e w B v xs) : OwnOf F e w.drew B v xs := h
theorem OwnOf.drewN (h : OwnOf F e w B v xs) (n : Nat) : OwnOf F e (w.drewN n) B v xs := h
theorem OwnOf.mono {B' : Nat} (h : OwnOf F e w B v xs) (hB : B' ≤ B) : OwnOf F e w B' v xs :=
  ⟨h.1, h.2.imp id (fun ⟨g, cap, cur, h1, h2, h3⟩ => ⟨g, cap, cur, h1, by omega, h3⟩)⟩
theorem OwnOf.sl (h : OwnOf F e w B v xs) (B0 : Nat) : ∃ A c, v = .slice A xs.length c ∧ SlOf F e w B0 A c xs :=
  let ⟨A, c, h1, _, h2⟩ := SlOf.of_own (B0 := B0) h; ⟨A, c, h1, h2⟩
theorem OwnOf.lt (h : OwnOf F e w B v xs) : ∀ k, v.ownBlock = some k → B ≤ k ∧ k < w.heap.size := World.ownsRow.lt h
/-- The row, as a block. -/
theorem OwnOf.typed (h : OwnOf F e w B v xs) : ∀ k, v.ownBlock = some k → ∃ cs, w.heap[k]? = some (.cells cs e (0, 0)) := by
  intro k hk
  rcases h.2 with ⟨rfl, _⟩ | ⟨g, cap, cur, rfl, _, hg, _⟩
  · simp [Value.ownBlock] at hk
  · simp [Value.ownBlock] at hk
    subst hk
    exact ⟨cur, hg⟩
theorem OwnOf.fr {B0 : Nat} {ts ms : List Nat} (h : OwnOf F e w B v xs) (hf : Fr B0 ts ms w w') (he : e ∉ ts) : OwnOf F e w' B v xs := by
  refine ⟨h.1, ?_⟩
  rcases h.2 with hn | ⟨g, cap, cur, rfl, hb, hg, rest⟩
  · exact .inl hn
  · exact .inr ⟨g, cap, cur, rfl, hb, hf.block g _ hg (fun ⟨_, h2⟩ => he h2), rest⟩
end

/-- 'out = append(out, y)' onto a slice of the call's own, elements of one cell. -/
theorem app1 {P : Program} {α : Type} (F : α → Value) (hF : ∀ x, (F x).oneCell' = true) (t e bytes : Nat) {z : Value} (ht : P.underlying t = some (.slice e))
    (hinfo : (P.info? e).map (fun i => (i.zero, i.size, i.bytes)) = some (some z, 1, bytes)) (hzs : z.cells.size = 1)
    {ops : Array Oper} {rest : List Oper} {o : Oper} {a : Act} {Q : Exit → Act → World → Prop} {w0 : World} (hg : o.guard = none) (s x : Operand)
    (hop : o.op = .call { callee := .builtin .append, args := #[s, x], argTypes := #[t, t] })
    (B : Nat) (v : Value) (xs : List α) (y : α) (hown : OwnOf F e w0 B v xs) (hs : a.eval s = v) (hx : a.eval x = .slice (some ⟨w0.heap.size, 0, none⟩) 1 1)
    (h63 : xs.length + 1 ≤ 9223372036854775807) (hb : (xs.length + 1) * bytes ≤ 140737488355328) (hB : B ≤ w0.heap.size)
    (hK : ∀ v' w', OwnOf F e w' B v' (xs ++ [y]) → w0.grownBy w' v.ownBlock → wpList P ops Q rest (a.put o.dst v') w') :
    wpList P ops Q (o :: rest) a (w0.alloc (.cells #[F y] e)) := by
  obtain ⟨i, hi, hz0, hz1, hz2⟩ := info_parts hinfo
  refine wpList_append_own _ hg s x t hop B e i z 1 bytes ht hi hz0 hz1 hz2 hzs (by decide) v xs.length (xs.map F) hs (World.ownsRow.alloc hown _) ⟨w0.heap.size, 0, none⟩ 1 1 [F y] hx rfl ?_ ?_ h63 hb (Nat.le_trans hB (by simp)) ?_
  · exact cell_one_new _ _ _
  · intro u hu; simp at hu; subst hu; exact hF y
  · intro v' w' ho hgr _
    refine hK v' w' ?_ ?_
    · unfold OwnOf; rw [List.length_append, List.map_append]; exact ho
    · exact (World.grownBy_alloc _ _ _).trans hgr

abbrev OwnI := OwnOf (Value.int .i64) 3
abbrev OwnB := OwnOf Value.bool 4
abbrev SlI := SlOf (Value.int .i64) 3
abbrev SlB := SlOf Value.bool 4


theorem SlOf.grown {α : Type} {F : α → Value} {e : Nat} {w w' : World} {B0 : Nat} {A : Option Addr} {c : Nat} {xs : List α} (h : SlOf F e w B0 A c xs) {row : Option Nat} (hg : w.grownBy w' row)
    (hr : ∀ g, row = some g → B0 ≤ g ∧ (g < w.heap.size → ∃ cs e' f, w.heap[g]? = some (.cells cs e' f) ∧ e' ≠ e)) : SlOf F e w' B0 A c xs :=
  h.keep fun b hb ht => hg.block b hb fun e1 => by
    obtain ⟨h1, h2⟩ := hr b e1.symm
    obtain ⟨cs, e', f, h3, h4⟩ := h2 hb
    rcases ht with ht | ⟨cs', f', ht⟩
    · omega
    · rw [ht] at h3; cases h3; exact h4 rfl

/-- A list that has just been laid in a row of its own. -/
theorem sl_new {α : Type} (F : α → Value) (e : Nat) (w : World) (B0 : Nat) (xs : List α) (hx : xs.length ≤ 9223372036854775807) :
    SlOf F e (w.alloc (.cells (xs.map F).toArray e)) B0 (some ⟨w.heap.size, 0, none⟩) xs.length xs := by
  refine ⟨Nat.le_refl _, hx, fun _ => ⟨_, _, rfl, .inr ⟨_, _, heap_alloc_new w _⟩, fun k x hk => ?_⟩⟩
  rw [cell_of_row _ _ _ _ _ _ (heap_alloc_new w _)]
  simp [hk]
theorem own_new {α : Type} (F : α → Value) (e : Nat) (w : World) (B : Nat) (hB : B ≤ w.heap.size) (xs : List α) (hx : xs.length ≤ 9223372036854775807) :
    OwnOf F e (w.alloc (.cells (xs.map F).toArray e)) B (.slice (some ⟨w.heap.size, 0, none⟩) xs.length xs.length) xs :=
  ⟨by simp, .inr ⟨_, _, _, rfl, hB, heap_alloc_new w _, Nat.le_refl _, hx, by simp, by rw [List.take_of_length_le (by simp)]⟩⟩

/-- A slice value, by its parts. -/
def slV (p : Option Addr × Nat × Nat) : Value := .slice p.1 p.2.1 p.2.2
theorem oneSl (p : Option Addr × Nat × Nat) : (slV p).oneCell' = true := rfl
theorem oneInt (x : Int) : (Value.int .i64 x).oneCell' = true := rfl
theorem oneBool (x : Bool) : (Value.bool x).oneCell' = true := rfl

/-- A slice of slices of numbers. -/
def SlW (w : World) (B0 : Nat) (A : Option Addr) (c : Nat) (ws : List (List Int)) : Prop :=
  ∃ sv : List (Option Addr × Nat × Nat), sv.length = ws.length ∧ SlOf slV 24 w B0 A c sv ∧ ∀ (i : Nat) (p : Option Addr × Nat × Nat) (x : List Int), sv[i]? = some p → ws[i]? = some x → p.2.1 = x.length ∧ SlI w B0 p.1 p.2.2 x

theorem SlW.at_ {w : World} {B0 : Nat} {A : Option Addr} {c : Nat} {ws : List (List Int)} (h : SlW w B0 A c ws) {k : Nat} (hk : k < ws.length) :
    ∃ b o x A' c', A = some ⟨b, o, none⟩ ∧ ws[k]? = some x ∧ w.cell? ⟨b, o + k, none⟩ = some (.slice A' x.length c') ∧ SlI w B0 A' c' x := by
  obtain ⟨sv, hl, hs, hall⟩ := h
  obtain ⟨b, o, p, rfl, hp, hc⟩ := hs.at_ (k := k) (by omega)
  have hx : ws[k]? = some ws[k] := List.getElem?_eq_getElem hk
  obtain ⟨h1, h2⟩ := hall k p _ hp hx
  exact ⟨b, o, _, p.1, p.2.2, rfl, hx, by rw [hc]; simp [slV, h1], h2⟩
theorem SlW.below {w w' : World} {B0 : Nat} {A : Option Addr} {c : Nat} {ws : List (List Int)} (h : SlW w B0 A c ws) (hb : Below w.heap.size w w') : SlW w' B0 A c ws :=
  let ⟨sv, h1, h2, h3⟩ := h; ⟨sv, h1, h2.below hb, fun i p x hp hx => ⟨(h3 i p x hp hx).1, (h3 i p x hp hx).2.below hb⟩⟩
theorem SlW.fr {w w' : World} {B0 : Nat} {A : Option Addr} {c : Nat} {ws : List (List Int)} {ts ms : List Nat} (h : SlW w B0 A c ws) (hf : Fr B0 ts ms w w') (h3 : 3 ∉ ts) (h24 : 24 ∉ ts) : SlW w' B0 A c ws :=
  let ⟨sv, h1, h2, h4⟩ := h; ⟨sv, h1, h2.fr hf h24, fun i p x hp hx => ⟨(h4 i p x hp hx).1, (h4 i p x hp hx).2.fr hf h3⟩⟩

/-- The same, of the call's own from B on: more may be appended. -/
def OwnW (w : World) (B0 B : Nat) (v : Value) (ws : List (List Int)) : Prop :=
  ∃ sv : List (Option Addr × Nat × Nat), sv.length = ws.length ∧ OwnOf slV 24 w B v sv ∧ ∀ (i : Nat) (p : Option Addr × Nat × Nat) (x : List Int), sv[i]? = some p → ws[i]? = some x → p.2.1 = x.length ∧ SlI w B0 p.1 p.2.2 x
theorem OwnW.nil (w : World) (B0 B : Nat) : OwnW w B0 B (.slice none 0 0) [] := ⟨[], rfl, OwnOf.nil _ _, fun i p x h => by simp at h⟩
theorem OwnW.sl {w : World} {B0 B : Nat} {v : Value} {ws : List (List Int)} (h : OwnW w B0 B v ws) : ∃ A c, v = .slice A ws.length c ∧ SlW w B0 A c ws := by
  obtain ⟨sv, h1, h2, h3⟩ := h
  obtain ⟨A, c, rfl, hs⟩ := h2.sl B0
  exact ⟨A, c, by rw [h1], sv, h1, hs, h3⟩
theorem OwnW.lt {w : World} {B0 B : Nat} {v : Value} {ws : List (List Int)} (h : OwnW w B0 B v ws) : ∀ k, v.ownBlock = some k → B ≤ k ∧ k < w.heap.size := let ⟨_, _, h2, _⟩ := h; h2.lt
theorem OwnW.below {w w' : World} {B0 B : Nat} {v : Value} {ws : List (List Int)} (h : OwnW w B0 B v ws) (hb : Below w.heap.size w w') : OwnW w' B0 B v ws :=
  let ⟨sv, h1, h2, h3⟩ := h; ⟨sv, h1, h2.below hb, fun i p x hp hx => ⟨(h3 i p x hp hx).1, (h3 i p x hp hx).2.below hb⟩⟩

/-- 'out = append(out, w)', w a slice of numbers. -/
theorem appW {P : Program} (t bytes : Nat) {z : Value} (ht : P.underlying t = some (.slice 24))
    (hinfo : (P.info? 24).map (fun i => (i.zero, i.size, i.bytes)) = some (some z, 1, bytes)) (hzs : z.cells.size = 1)
    {ops : Array Oper} {rest : List Oper} {o : Oper} {a : Act} {Q : Exit → Act → World → Prop} {w0 : World} (hg : o.guard = none) (s x : Operand)
    (hop : o.op = .call { callee := .builtin .append, args := #[s, x], argTypes := #[t, t] })
    (B0 B : Nat) (v : Value) (ws : List (List Int)) (A : Option Addr) (c : Nat) (y : List Int) (hown : OwnW w0 B0 B v ws) (hy : SlI w0 B0 A c y) (hs : a.eval s = v) (hx : a.eval x = .slice (some ⟨w0.heap.size, 0, none⟩) 1 1)
    (h63 : ws.length + 1 ≤ 9223372036854775807) (hb : (ws.length + 1) * bytes ≤ 140737488355328) (hB : B ≤ w0.heap.size) (hB0 : B0 ≤ B)
    (hK : ∀ v' w', OwnW w' B0 B v' (ws ++ [y]) → w0.grownBy w' v.ownBlock → wpList P ops Q rest (a.put o.dst v') w') :
    wpList P ops Q (o :: rest) a (w0.alloc (.cells #[.slice A y.length c] 24)) := by
  obtain ⟨sv, h1, h2, h3⟩ := hown
  refine app1 slV oneSl t 24 bytes ht hinfo hzs hg s x hop B v sv (A, y.length, c) h2 hs hx (by omega) (by rw [h1]; exact hb) hB fun v' w' ho hgr => hK v' w' ⟨sv ++ [(A, y.length, c)], by simp [h1], ho, ?_⟩ hgr
  have hr : ∀ g, v.ownBlock = some g → B0 ≤ g ∧ (g < w0.heap.size → ∃ cs e' f, w0.heap[g]? = some (.cells cs e' f) ∧ e' ≠ 3) := fun g hg => by
    obtain ⟨cs, hcs⟩ := h2.typed g hg
    exact ⟨Nat.le_trans hB0 (h2.lt g hg).1, fun _ => ⟨cs, 24, _, hcs, by decide⟩⟩
  intro i p x hp hx
  by_cases hi : i < sv.length
  · rw [List.getElem?_append_left hi] at hp
    rw [List.getElem?_append_left (by omega)] at hx
    exact ⟨(h3 i p x hp hx).1, (h3 i p x hp hx).2.grown hgr hr⟩
  · rw [List.getElem?_append_right (by omega)] at hp
    rw [List.getElem?_append_right (by omega)] at hx
    have hi0 : i - sv.length = 0 := by
      have := (List.getElem?_eq_some_iff.1 hp).1; simp at this; omega
    rw [hi0] at hp
    rw [← h1, hi0] at hx
    simp at hp hx
    subst hp hx
    exact ⟨rfl, hy.grown hgr hr⟩


/-! ### append of a whole slice, nil or not -/
section
variable {P : Program} (w : World)
theorem run_append_of_nil (base : Nat) (t ty e : TypeId) (i : TypeInfo) (size : Nat) (ht : P.underlying t = some (.slice e)) (hi : P.info? e = some i)
    (v : Value) (n : Nat) (xs : List Value) (hown : w.ownsRow base e size v n xs) (c : Nat) : (Builtin.append_ #[t, t] ty #[v, .slice none 0 c]).run P w = .ok v w := by
  rcases hown.2 with ⟨rfl, rfl⟩ | ⟨g, cap, cur, rfl, _, _, hnc, _⟩
  · simp [Builtin.append_, run_underlying ht, sizeOf, typeInfo, hi, Builtin.lenOf, Builtin.firstCells]
  · simp [Builtin.append_, run_underlying ht, sizeOf, typeInfo, hi, Builtin.lenOf, Builtin.firstCells, hnc, storeCells]

theorem run_append_src (base : Nat) (t ty e : TypeId) (i : TypeInfo) (z : Value) (size bytes : Nat) (ht : P.underlying t = some (.slice e)) (hi : P.info? e = some i) (hz : i.zero = some z)
    (hsize : i.size = size) (hby : i.bytes = bytes) (hzs : z.cells.size = size) (hsz : 0 < size)
    (v : Value) (n : Nat) (xs : List Value) (hown : w.ownsRow base e size v n xs)
    (A : Option Addr) (m c : Nat) (news : List Value) (hl : news.length = m * size) (hr : 0 < m → ∃ ad, A = some ad ∧ ∀ j u, news[j]? = some u → w.cell? (ad.add j) = some u) (h1 : ∀ u ∈ news, u.oneCell' = true)
    (h63 : n + m ≤ maxLen) (hbytes : (n + m) * bytes ≤ 140737488355328) (hbase : base ≤ w.heap.size) :
    ∃ v' w', (Builtin.append_ #[t, t] ty #[v, .slice A m c]).run P w = .ok v' w' ∧ w'.ownsRow base e size v' (n + m) (xs ++ news) ∧ w.grownBy w' v.ownBlock := by
  rcases A with _ | ad
  · have hm : m = 0 := by
      rcases Nat.eq_zero_or_pos m with h0 | h0
      · exact h0
      · obtain ⟨ad, h, _⟩ := hr h0
        cases h
    subst hm
    have hn : news = [] := List.eq_nil_of_length_eq_zero (by simpa using hl)
    subst hn
    exact ⟨v, w, run_append_of_nil w base t ty e i size ht hi v n xs hown c, by simpa using hown, World.grownBy.refl w _⟩
  · have hcells : ∀ j u, news[j]? = some u → w.cell? (ad.add j) = some u := by
      intro j u hu
      rcases Nat.eq_zero_or_pos m with h0 | h0
      · subst h0
        have hn : news = [] := List.eq_nil_of_length_eq_zero (by simpa using hl)
        subst hn
        simp at hu
      · obtain ⟨ad', h, hc⟩ := hr h0
        injection h with h
        subst h
        exact hc j u hu
    obtain ⟨v', w', hrun, h2, h3, _⟩ := run_append_own (P := P) w base t ty e i z size bytes ht hi hz hsize hby hzs hsz v n xs hown ad m c news hl hcells h1 h63 hbytes hbase
    exact ⟨v', w', hrun, h2, h3⟩

theorem wp_append_src {o : Oper} {a : Act} {K : Act → World → Prop} {Q : Exit → Act → World → Prop} (s x : Operand) (t : TypeId)
    (ho : o.op = .call { callee := .builtin .append, args := #[s, x], argTypes := #[t, t] })
    (base : Nat) (e : TypeId) (z : Value) (size bytes : Nat) (ht : P.underlying t = some (.slice e)) (hinfo : (P.info? e).map (fun i => (i.zero, i.size, i.bytes)) = some (some z, size, bytes)) (hzs : z.cells.size = size) (hsz : 0 < size)
    (v : Value) (n : Nat) (xs : List Value) (hown : w.ownsRow base e size v n xs) (hs : a.eval s = v)
    (A : Option Addr) (m c : Nat) (news : List Value) (hx : a.eval x = .slice A m c) (hl : news.length = m * size) (hr : 0 < m → ∃ ad, A = some ad ∧ ∀ j u, news[j]? = some u → w.cell? (ad.add j) = some u) (h1 : ∀ u ∈ news, u.oneCell' = true)
    (h63 : n + m ≤ maxLen) (hbytes : (n + m) * bytes ≤ 140737488355328) (hbase : base ≤ w.heap.size)
    (h : ∀ v' w', w'.ownsRow base e size v' (n + m) (xs ++ news) → w.grownBy w' v.ownBlock → K (a.put o.dst v') w') : o.wp P a w K Q := by
  obtain ⟨i, hi, hz0, hz1, hz2⟩ := info_parts hinfo
  obtain ⟨v', w', hrun, h2, h3⟩ := run_append_src (P := P) w base t o.type e i z size bytes ht hi hz0 hz1 hz2 hzs hsz v n xs hown A m c news hl hr h1 h63 hbytes hbase
  unfold Oper.wp execOp
  simp only [ho, resolve, invoke, builtin, Sem.run_bind, Sem.run_pure, Result.andThen_ok, List.map_toArray, List.map_cons, List.map_nil, hs, hx, hrun]
  exact h v' w' h2 h3
theorem wpList_append_src {ops : Array Oper} {rest : List Oper} {o : Oper} {a : Act} {Q : Exit → Act → World → Prop} (hgd : o.guard = none) (s x : Operand) (t : TypeId)
    (ho : o.op = .call { callee := .builtin .append, args := #[s, x], argTypes := #[t, t] })
    (base : Nat) (e : TypeId) (z : Value) (size bytes : Nat) (ht : P.underlying t = some (.slice e)) (hinfo : (P.info? e).map (fun i => (i.zero, i.size, i.bytes)) = some (some z, size, bytes)) (hzs : z.cells.size = size) (hsz : 0 < size)
    (v : Value) (n : Nat) (xs : List Value) (hown : w.ownsRow base e size v n xs) (hs : a.eval s = v)
    (A : Option Addr) (m c : Nat) (news : List Value) (hx : a.eval x = .slice A m c) (hl : news.length = m * size) (hr : 0 < m → ∃ ad, A = some ad ∧ ∀ j u, news[j]? = some u → w.cell? (ad.add j) = some u) (h1 : ∀ u ∈ news, u.oneCell' = true)
    (h63 : n + m ≤ maxLen) (hbytes : (n + m) * bytes ≤ 140737488355328) (hbase : base ≤ w.heap.size)
    (h : ∀ v' w', w'.ownsRow base e size v' (n + m) (xs ++ news) → w.grownBy w' v.ownBlock → wpList P ops Q rest (a.put o.dst v') w') : wpList P ops Q (o :: rest) a w :=
  wpList_plain hgd fun _ hK => wp_append_src w s x t ho base e z size bytes ht hinfo hzs hsz v n xs hown hs A m c news hx hl hr h1 h63 hbytes hbase fun v' w' h2 h3 => hK _ _ (h v' w' h2 h3)
end

end Go.Proofs.Ytgmcajojigedaaa
