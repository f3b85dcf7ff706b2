/- Maps whose entries are exactly known: a look-up, a store of a new key, the two halves of a store. And the keys of this program: two ints, an int, a term. -/
import Derived.Test.YtgmcajojigedaaaProg
import Derived.Test.YtgmcajojigedaaaInf
import Derived.DeepKeys4
import Derived.WideKeyEntry
set_option linter.unusedSimpArgs false
set_option linter.unusedVariables false
namespace Go.Proofs.Ytgmcajojigedaaa
open Go.RowKit Go.Maps
open Go.ChangeMaps (setBlock heap_setBlock_same heap_setBlock_other)

theorem Try.laidOut : laidOutB Try.prog = true := by kernel_rfl

/-- Each key of the entries is a key of type k. -/
def KeysOk (P : Program) (k : TypeId) (es : List MapEntry) : Prop := ∀ x ∈ es, ∃ l, keyOf P k x.key = some l

section
variable {P : Program} {k e t : TypeId} {w : World} {b : Nat} {es : List MapEntry} {clock : Nat}

/-- 'm[k]', 'v, ok := m[k]'. -/
theorem run_lookup_at (K : Keyed P k) (c : Bool) (ht : P.underlying t = some (.map k e)) {z : Value} (hz : (zeroValue e).run P w = .ok z w) (hb : w.heap[b]? = some (.map es.toArray clock)) (hk : KeysOk P k es)
    {key : Value} {kl : Lit} (hkey : keyOf P k key = some kl) :
    ((Instr.lookup t (.map (some b)) key c).run P w = .ok (if c then .tuple #[z, .bool false] else z) w ∧ ∀ x ∈ es, x.key ≠ key) ∨
    ∃ (j : Nat) (x : MapEntry), es[j]? = some x ∧ x.key = key ∧ (Instr.lookup t (.map (some b)) key c).run P w = .ok (if c then .tuple #[x.val, .bool true] else x.val) w := by
  rcases K.find w hkey es hk with ⟨h1, h2⟩ | ⟨j, e0, h1, h2, h3⟩
  · exact .inl ⟨by simp [Instr.lookup, run_underlying ht, MapKept.run_getObj_map hb, K.check w _ hkey, h1, hz, Result.andThen], h2⟩
  · exact .inr ⟨j, e0, h2, h3, by simp [Instr.lookup, run_underlying ht, MapKept.run_getObj_map hb, K.check w _ hkey, h1, Result.andThen]⟩

/-- 'm[k] = v' at a key that is not there. -/
theorem run_update_new (K : Keyed P k) (ht : P.underlying t = some (.map k e)) (hb : w.heap[b]? = some (.map es.toArray clock)) (hk : KeysOk P k es)
    {key val : Value} {kl : Lit} (hkey : keyOf P k key = some kl) (hnew : ∀ x ∈ es, x.key ≠ key) :
    (Instr.mapUpdate t (.map (some b)) key val).run P w = .ok () (setBlock w b (.map (es ++ [MapEntry.mk key val clock]).toArray (clock + 1))) := by
  rcases K.find w hkey es hk with ⟨h1, h2⟩ | ⟨j, e0, h1, h2, h3⟩
  · simp [Instr.mapUpdate, run_underlying ht, MapKept.run_getObj_map hb, K.check w false hkey, h1, MapKept.run_setObj_map _ hb, Result.andThen, setBlock]
  · exact absurd h3 (hnew e0 (List.mem_of_getElem? h2))

/-- 'm[k] = v' at a key that is there. -/
theorem run_update_old (K : Keyed P k) (ht : P.underlying t = some (.map k e)) (hb : w.heap[b]? = some (.map es.toArray clock)) (hk : KeysOk P k es)
    {key val : Value} {kl : Lit} (hkey : keyOf P k key = some kl) {j : Nat} {x : MapEntry} (hj : es[j]? = some x) (hx : x.key = key) (huniq : ∀ (i : Nat) (y : MapEntry), es[i]? = some y → y.key = key → i = j) :
    (Instr.mapUpdate t (.map (some b)) key val).run P w = .ok () (setBlock w b (.map (es.set j { x with val := val }).toArray clock)) := by
  rcases K.find w hkey es hk with ⟨h1, h2⟩ | ⟨i, e0, h1, h2, h3⟩
  · exact absurd hx (h2 x (List.mem_of_getElem? hj))
  · obtain rfl := huniq i e0 h2 h3
    rw [hj] at h2
    cases h2
    have hmod : (es.modify i fun e => { key := key, val := val, born := e.born }) = es.set i { key := key, val := val, born := x.born } := ChangeMaps.modify_eq_set _ _ _ _ hj
    simp [Instr.mapUpdate, run_underlying ht, MapKept.run_getObj_map hb, K.check w false hkey, h1, hj, hx, K.stays w hkey, MapKept.run_setObj_map _ hb, Result.andThen, setBlock, hmod]

/-- The two halves of 'm[k] = v' at a key that is not there. -/
theorem run_entry_new (K : Keyed P k) (ht : P.underlying t = some (.map k e)) {z : Value} (hz : (zeroValue e).run P w = .ok z w) (hb : w.heap[b]? = some (.map es.toArray clock)) (hk : KeysOk P k es)
    {key : Value} {kl : Lit} (hkey : keyOf P k key = some kl) (hnew : ∀ x ∈ es, x.key ≠ key) :
    (Instr.mapEntry t (.map (some b)) key).run P w = .ok (.tuple #[z, goInt clock]) (setBlock w b (.map (es ++ [MapEntry.mk key z clock]).toArray (clock + 1))) := by
  rcases K.find w hkey es hk with ⟨h1, h2⟩ | ⟨j, e0, h1, h2, h3⟩
  · simp [Instr.mapEntry, run_underlying ht, MapKept.run_getObj_map hb, K.check w false hkey, h1, hz, MapKept.run_setObj_map _ hb, Result.andThen, setBlock]
  · exact absurd h3 (hnew e0 (List.mem_of_getElem? h2))
theorem findIdx_last (p : MapEntry → Bool) (x : MapEntry) : ∀ l : List MapEntry, (∀ y ∈ l, p y = false) → p x = true → (l ++ [x]).findIdx? p = some l.length
  | [], _, hx => by simp [hx]
  | y :: r, hl, hx => by
    have h1 := hl y (by simp)
    simp [List.findIdx?_cons, h1, findIdx_last p x r (fun z hz => hl z (by simp [hz])) hx]
theorem run_store_new {key z val : Value} (hb : w.heap[b]? = some (.map (es ++ [MapEntry.mk key z clock]).toArray (clock + 1))) (hs : ∀ x ∈ es, x.born < clock) :
    (Instr.entryStore t (.map (some b)) (goInt clock) val).run P w = .ok () (setBlock w b (.map (es ++ [MapEntry.mk key val clock]).toArray (clock + 1))) := by
  have hidx : (es ++ [MapEntry.mk key z clock]).toArray.findIdx? (fun e => ((e.born : Nat) : Int) == ((clock : Nat) : Int)) = some es.length := by
    rw [WideElems.findIdx_arr]
    refine findIdx_last _ _ es (fun y hy => ?_) (by simp)
    have := hs y hy
    simp; omega
  have hmod : (es ++ [MapEntry.mk key z clock]).toArray.modify es.length (fun e => { e with val := val }) = (es ++ [MapEntry.mk key val clock]).toArray := by
    apply Array.ext'
    rw [Array.toList_modify]
    exact WideElems.modify_last _ _ _
  simp [Instr.entryStore, MapKept.run_getObj_map hb, asInt, asIntOf, goInt, hidx, hmod, MapKept.run_setObj_map _ hb, Result.andThen, setBlock]
end

/-! ### The keys -/
theorem Try.size_pos : ∃ m, Try.prog.types.size = m + 3 := by
  have h : 3 ≤ Try.prog.types.size := of_decide_eq_true (by kernel_rfl)
  exact ⟨Try.prog.types.size - 3, by omega⟩
theorem law3 : Keyed Try.prog 3 := int_keyed Try.underlying3
theorem zero3 (w : World) : (zeroValue 3).run Try.prog w = .ok (.int .i64 0) w := by kernel_rfl
theorem zero4 (w : World) : (zeroValue 4).run Try.prog w = .ok (.bool false) w := by kernel_rfl

theorem cells3 : Try.prog.cellsOf 3 = 1 := by kernel_rfl
theorem cells123 : Try.prog.cellsOf 123 = 2 := by kernel_rfl
theorem law123 : Keyed Try.prog 123 := Keyed.of_law (deep_law_laid Try.laidOut (m := 2) (by omega) (of_decide_eq_true (by kernel_rfl)) (by kernel_rfl) (by kernel_rfl))
theorem key123 {a b : Int} (ha : (Lit.int .i64 a).wf = true) (hb : (Lit.int .i64 b).wf = true) : ∃ l, keyOf Try.prog 123 (.agg #[.int .i64 a, .int .i64 b]) = some l := by
  obtain ⟨m, hm⟩ := Try.size_pos
  have h1 : Try.prog.keyType 123 = true := by kernel_rfl
  have h2 : (Value.agg #[.int .i64 a, .int .i64 b]).formed Try.prog 123 = true := by simp [Value.formed, Try.underlying123, cells123]
  simp [keyOf, Try.underlying123, h1, h2, hm, Program.keyLits, Value.cells, cells123, cells3, Try.underlying3, ha, hb, List.range_succ]
end Go.Proofs.Ytgmcajojigedaaa
