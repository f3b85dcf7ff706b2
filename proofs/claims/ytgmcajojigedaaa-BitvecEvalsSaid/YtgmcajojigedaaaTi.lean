/- Which nodes a node consists of: plain laws, no program. Slices of numbers of the call's own, in the words of the library's contracts on sorting. No program. DERIVED: THE SHELF's CONTRACTS AT THIS DUMP, IN PLAIN WORDS (tools/lay-plain.mjs out of 'TryShelf.lean', which tools/lay-shelf.mjs wrote): THE SAME DECLARATIONS UNDER THE SAME NAMES: 'import', 'namespace', 'open', 'def', 'theorem' AND NOTHING ELSE: no command of the shelf's: FOR A HAND-IN. Each laying: the table of numbers ('.._ren') and one theorem, a field a fact of the dump's own or the kernel's comparison; each contract: ONE APPLICATION. The walk of the table's parts. -/
import Derived.Test.YtgmcajojigedaaaTh
import Derived.Test.YtgmcajojigedaaaBase
import Derived.Sort.Row
import Derived.Shelf.Small.Bits
import Derived.Shelf.Small.Wraps
import Derived.Shelf.Strconv.Itoa0
import Derived.Shelf.Sort.Plain
import Derived.Shelf.Slices.Reverse
import Derived.Shelf.Slices.Equal
import Derived.Ground.Names2Prog
import Derived.Shelf.Slices.Clone
import Derived.Shelf.Slices.CompactI
import Derived.Shelf.Slices.SearchI
import Derived.Shelf.Slices.Cells
import Derived.Shelf.Slices.In.SortNone
import Derived.Shelf.Slices.Empties2
import Derived.Ground.SlgnProg
import Derived.Shelf.SlicesE.Clone
import Derived.Test.YtgmcajojigedaaaProg
import Derived.Laws.OwnMore
set_option linter.unusedSimpArgs false
set_option linter.unusedVariables false
namespace Go.Proofs.Ytgmcajojigedaaa

/-- The arguments of a term. -/
def argsL (t : Tm) : List Nat := match formF t.op with
  | some ((s0, s1, s2), _) => (if s0 = -1 then [] else [t.a.toNat]) ++ ((if s1 = -1 then [] else [t.b.toNat]) ++ (if s2 = -1 then [] else [t.c.toNat]))
  | none => []
def argsAt (T : TS) (k : Nat) : List Nat := match T.nodes[k]? with
  | some t => argsL t
  | none => []
/-- The marks after j rounds of the loop that goes down from i. -/
def mK (T : TS) (i : Nat) : Nat → Nat → Bool
  | 0, x => x == i
  | j + 1, x => mK T i j x || (mK T i j (i - j) && (argsAt T (i - j)).contains x)
def mF (T : TS) (i x : Nat) : Bool := mK T i (i + 1) x
def outK (T : TS) (i : Nat) : Nat → List Int
  | 0 => []
  | j + 1 => outK T i j ++ (if mK T i j (i - j) then [((i - j : Nat) : Int)] else [])
/-- The nodes of a node, in increasing order. -/
def partsN (T : TS) (i : Nat) : List Nat := (List.range (i + 1)).filter (mF T i)

theorem argOk_node {T : TS} {s x : Int} (h : argOk T s x = true) (hs : s ≠ -1) : ∃ k t, x = (k : Nat) ∧ T.nodes[k]? = some t ∧ sortF t.op = s := by
  unfold argOk at h
  rw [if_neg hs] at h
  rcases hn : nodeAt T x with _ | t
  · rw [hn] at h; cases h
  · rw [hn] at h
    obtain ⟨k, rfl, hk⟩ := nodeAt_some hn
    exact ⟨k, t, rfl, hk, of_decide_eq_true h⟩
/-- What a term that fits has as arguments. -/
theorem fits_args_some {T : TS} {t : Tm} {s0 s1 s2 s : Int} (h : fitsT T t = true) (hf : formF t.op = some ((s0, s1, s2), s)) : argOk T s0 t.a = true ∧ argOk T s1 t.b = true ∧ argOk T s2 t.c = true ∧ t.v = 0 := by
  unfold fitsT at h
  rw [hf] at h
  simp only [Bool.and_eq_true, decide_eq_true_eq] at h
  exact ⟨h.1.1.1, h.1.1.2, h.1.2, h.2⟩
theorem args_lt {T : TS} (hw : TWf T) {k x : Nat} (h : x ∈ argsAt T k) : x < k := by
  unfold argsAt at h
  rcases hk : T.nodes[k]? with _ | t
  · rw [hk] at h; cases h
  · rw [hk] at h
    dsimp only at h
    unfold argsL at h
    rcases hf : formF t.op with _ | ⟨⟨s0, s1, s2⟩, s⟩
    · rw [hf] at h; cases h
    · rw [hf] at h
      dsimp only at h
      obtain ⟨h1, h2, h3, _⟩ := fits_args_some (hw.fit k t hk) hf
      have key : ∀ (s y : Int), argOk ⟨T.width, T.nodes.take k⟩ s y = true → x ∈ (if s = -1 then [] else [y.toNat]) → x < k := fun s y ho hx => by
        split at hx
        · cases hx
        · rename_i hs
          obtain ⟨j, t', rfl, hj, _⟩ := argOk_node ho hs
          simp at hx
          have := (List.getElem?_eq_some_iff.1 hj).1
          rw [List.length_take] at this
          omega
      rcases List.mem_append.1 h with h | h
      · exact key _ _ h1 h
      · rcases List.mem_append.1 h with h | h
        · exact key _ _ h2 h
        · exact key _ _ h3 h
section
variable {T : TS} {i : Nat}
theorem mK_mono {j x : Nat} (h : mK T i j x = true) : mK T i (j + 1) x = true := by
  rw [mK, h]; rfl
theorem mK_mono' {j x : Nat} (h : mK T i j x = true) : ∀ n, mK T i (j + n) x = true
  | 0 => h
  | n + 1 => mK_mono (mK_mono' h n)
theorem mK_step (hw : TWf T) {j x : Nat} (hx : i - j ≤ x) : mK T i (j + 1) x = mK T i j x := by
  rw [mK]
  have : (argsAt T (i - j)).contains x = false := by
    rw [Bool.eq_false_iff]
    intro h
    have := args_lt hw (List.contains_iff_mem.1 h)
    omega
  rw [this]; simp
theorem mK_stable (hw : TWf T) {j x : Nat} (hx : i - j ≤ x) : ∀ n, mK T i (j + n) x = mK T i j x
  | 0 => rfl
  | n + 1 => by
    rw [show j + (n + 1) = (j + n) + 1 from rfl, mK_step hw (by omega), mK_stable hw hx n]
theorem mF_at (hw : TWf T) {j : Nat} (hj : j ≤ i) : mF T i (i - j) = mK T i j (i - j) := by
  unfold mF
  rw [show i + 1 = j + (i + 1 - j) by omega]
  exact mK_stable hw (Nat.le_refl _) _
theorem mF_self (hw : TWf T) : mF T i i = true := by
  have := mF_at hw (i := i) (j := 0) (Nat.zero_le _)
  rw [Nat.sub_zero] at this
  rw [this]; simp [mK]
theorem mF_args (hw : TWf T) {k x : Nat} (hk : k ≤ i) (h : mF T i k = true) (hx : x ∈ argsAt T k) : mF T i x = true := by
  have e : i - (i - k) = k := by omega
  have h1 := mF_at hw (i := i) (j := i - k) (by omega)
  rw [e] at h1
  rw [h1] at h
  have h2 : mK T i (i - k + 1) x = true := by
    rw [mK, e, h, List.contains_iff_mem.2 hx]; simp
  unfold mF
  rw [show i + 1 = (i - k + 1) + (i - (i - k)) by omega]
  exact mK_mono' h2 _
theorem mK_le (hw : TWf T) : ∀ (j x : Nat), mK T i j x = true → x ≤ i
  | 0, x, h => by simp [mK] at h; omega
  | j + 1, x, h => by
    rw [mK, Bool.or_eq_true, Bool.and_eq_true] at h
    rcases h with h | ⟨_, h⟩
    · exact mK_le hw j x h
    · have := args_lt hw (List.contains_iff_mem.1 h); omega
theorem outK_filter (hw : TWf T) : ∀ j, j ≤ i + 1 → (outK T i j).reverse = (((List.range (i + 1)).drop (i + 1 - j)).filter (mF T i)).map fun k => ((k : Nat) : Int)
  | 0, _ => by rw [List.drop_of_length_le (by simp)]; rfl
  | j + 1, hj => by
    have hlt : i + 1 - (j + 1) < (List.range (i + 1)).length := by simp; omega
    rw [List.drop_eq_getElem_cons hlt, List.filter_cons, outK, List.reverse_append, outK_filter hw j (by omega), List.getElem_range]
    rw [show i + 1 - (j + 1) + 1 = i + 1 - j by omega, show i + 1 - (j + 1) = i - j by omega, mF_at hw (by omega)]
    split <;> simp
theorem outK_parts (hw : TWf T) : (outK T i (i + 1)).reverse = (partsN T i).map fun k => ((k : Nat) : Int) := by
  rw [outK_filter hw (i + 1) (Nat.le_refl _), Nat.sub_self, List.drop_zero]; rfl
end
/-! ### The list of marks -/
theorem set_range (m x : Nat) (f : Nat → Bool) : ((List.range m).map f).set x true = (List.range m).map fun y => f y || decide (y = x) := by
  apply List.ext_getElem?
  intro k
  rw [List.getElem?_set]
  by_cases hk : k < m
  · by_cases hx : x = k
    · subst hx; simp [hk]
    · have : ¬ k = x := fun h => hx h.symm
      simp [hx, this, hk]
  · by_cases hx : x = k
    · subst hx; simp [hk]
    · simp [hx, hk]
/-- The marks after n of the arguments of a node have been marked. -/
def sI (s0 s1 s2 : Int) (a b c : Int) (f : Nat → Bool) : Nat → Nat → Bool
  | 0, y => f y
  | n + 1, y => sI s0 s1 s2 a b c f n y || (decide (sAt s0 s1 s2 n ≠ -1) && decide (y = (sAt a b c n).toNat))
theorem sI_three {T : TS} {i j : Nat} {t : Tm} {s0 s1 s2 s : Int} (hk : T.nodes[i - j]? = some t) (hf : formF t.op = some ((s0, s1, s2), s)) (hm : mK T i j (i - j) = true) : ∀ y, sI s0 s1 s2 t.a t.b t.c (mK T i j) 3 y = mK T i (j + 1) y := by
  intro y
  have e : argsAt T (i - j) = (if s0 = -1 then [] else [t.a.toNat]) ++ ((if s1 = -1 then [] else [t.b.toNat]) ++ (if s2 = -1 then [] else [t.c.toNat])) := by
    unfold argsAt; rw [hk]; dsimp only; unfold argsL; rw [hf]
  rw [mK, e, hm]
  simp only [sI, sAt]
  by_cases h0 : s0 = -1 <;> by_cases h1 : s1 = -1 <;> by_cases h2 : s2 = -1 <;> simp [h0, h1, h2, Bool.or_assoc]
theorem no_form {T : TS} {i j : Nat} {t : Tm} (hk : T.nodes[i - j]? = some t) (hf : formF t.op = none) : ∀ y, mK T i (j + 1) y = mK T i j y := by
  intro y
  have e : argsAt T (i - j) = [] := by unfold argsAt; rw [hk]; dsimp only; unfold argsL; rw [hf]
  rw [mK, e]; simp
theorem no_mark {T : TS} {i j : Nat} (h : mK T i j (i - j) = false) : ∀ y, mK T i (j + 1) y = mK T i j y := by
  intro y; rw [mK, h]; simp
end Go.Proofs.Ytgmcajojigedaaa
namespace Go.Proofs.Ytgmcajojigedaaa
open Go.RowKit Go.Sort

theorem own_holds {w : World} {B g n cap : Nat} {xs : List Int} (h : OwnI w B (.slice (some ⟨g, 0, none⟩) n cap) xs) (e : xs.length = n) : Holds (Value.int .i64) w g 0 xs.toArray := by
  rcases h.2 with ⟨h0, _⟩ | ⟨g', cap', cur, e1, h1, h2, h3, h4, h5, h6⟩
  · cases h0
  · injection e1 with e1 _ _
    injection e1 with e1
    injection e1 with e1 _ _
    subst e1
    intro j hj
    have hj' : j < xs.length := by simpa using hj
    refine ⟨?_, by simp [World.frozen?, h2]⟩
    have := h.cells (g := g) rfl j (.int .i64 xs[j]) (by simp [hj'])
    rw [Addr.add_lit] at this
    rw [this]
    simp [hj']
theorem putRow_heap (w : World) (q g : Nat) (d : Array Int) : (putRow (Value.int .i64) (Go.Sort.ahead w q) g 0 d).heap = w.heap.modify g (onCells (putCells (Value.int .i64) 0 d)) := rfl
theorem own_put {w : World} {B g n cap : Nat} {xs ys : List Int} (q : Nat) (h : OwnI w B (.slice (some ⟨g, 0, none⟩) n cap) xs) (e : xs.length = n) (e2 : ys.length = n) :
    OwnI (putRow (Value.int .i64) (Go.Sort.ahead w q) g 0 ys.toArray) B (.slice (some ⟨g, 0, none⟩) n cap) ys ∧ w.grownBy (putRow (Value.int .i64) (Go.Sort.ahead w q) g 0 ys.toArray) (some g) := by
  rcases h.2 with ⟨h0, _⟩ | ⟨g', cap', cur, e1, h1, h2, h3, h4, h5, h6⟩
  · cases h0
  · injection e1 with e1 e3 e4
    injection e1 with e1
    injection e1 with e1 _ _
    subst e1 e4
    refine ⟨⟨by simp, .inr ⟨g, cap, putCells (Value.int .i64) 0 ys.toArray cur, by rw [e2], h1, ?_, by omega, h4, by simp [putCells, h5], ?_⟩⟩, ⟨rfl, rfl, rfl, by rw [putRow_heap]; simp, fun k hk hne => ?_⟩⟩
    · rw [putRow_heap, Array.getElem?_modify, if_pos rfl, h2]; rfl
    · apply List.ext_getElem?
      intro k
      rw [List.getElem?_take]
      by_cases hk : k < ys.length
      · rw [if_pos (by omega)]
        have hc : k < cur.size := by omega
        simp [putCells, hk, hc]
      · rw [if_neg (by omega), List.getElem?_eq_none (by simp; omega)]
    · rw [putRow_heap, Array.getElem?_modify, if_neg (fun h => hne (by rw [h]))]
end Go.Proofs.Ytgmcajojigedaaa
namespace Go.Proofs
open Go.Shelf
def Try.lays128_ren : Go.Shelf.Ren := ⟨fun | 128 => 196 | n => n, fun | 51 => 187 | 3 => 3 | 4 => 4 | 46 => 168 | 5 => 5 | 9 => 9 | n => n, fun | n => n⟩
theorem Try.lays128 : Go.Proofs.Lays.n128 Try.prog Try.lays128_ren := {
  mixed := by kernel_rfl
  f128 := Try.func196.trans (congrArg some (by kernel_rfl))
  t3 := Try.underlying3
  a3 := Try.isAgg3
  z3 := Try.sizeOf3
  v3 := Try.zeroValue3
  t4 := Try.underlying4
  a4 := Try.isAgg4
  z4 := Try.sizeOf4
  v4 := Try.zeroValue4
  t5 := Try.underlying5
  a5 := Try.isAgg5
  z5 := Try.sizeOf5
  v5 := Try.zeroValue5
  t9 := Try.underlying9
  a9 := Try.isAgg9
  z9 := Try.sizeOf9
  v9 := Try.zeroValue9
  t46 := Try.underlying168
  a46 := Try.isAgg168
  z46 := Try.sizeOf168
  v46 := Try.zeroValue168
  t51 := Try.underlying187
  a51 := Try.isAgg187
  z51 := Try.sizeOf187
  v51 := Try.zeroValue187 }
/-- bits.Len32: "Len32 returns the minimum number of bits required to represent x; the result is 0 for x == 0.": IT RETURNS 'Lib.bitLen x'; the world is as it was. ('h0', 'h1': x is a uint32.) (LAID: no walk: one application.) -/
theorem Try.bits_Len32 (x : Int) (w : World) (h0 : 0 ≤ x) (h1 : x ≤ 4294967295) :
    Calls Try.prog 196 #[.int .u32 x] w fun e w' => e = .returned (.int .i64 (Lib.bitLen x.toNat)) ∧ w' = w := Any.bits_Len32 Try.lays128 x w h0 h1
def Try.lays125_ren : Go.Shelf.Ren := ⟨fun | 125 => 164 | 128 => 196 | 129 => 197 | n => n, fun | 46 => 168 | 3 => 3 | 51 => 187 | 53 => 189 | 4 => 4 | 5 => 5 | 9 => 9 | n => n, fun | n => n⟩
theorem Try.lays125 : Go.Proofs.Lays.n125 Try.prog Try.lays125_ren := {
  mixed := by kernel_rfl
  f125 := Try.func164.trans (congrArg some (by kernel_rfl))
  f128 := Try.func196.trans (congrArg some (by kernel_rfl))
  f129 := Try.func197.trans (congrArg some (by kernel_rfl))
  t3 := Try.underlying3
  a3 := Try.isAgg3
  z3 := Try.sizeOf3
  v3 := Try.zeroValue3
  t4 := Try.underlying4
  a4 := Try.isAgg4
  z4 := Try.sizeOf4
  v4 := Try.zeroValue4
  t5 := Try.underlying5
  a5 := Try.isAgg5
  z5 := Try.sizeOf5
  v5 := Try.zeroValue5
  t9 := Try.underlying9
  a9 := Try.isAgg9
  z9 := Try.sizeOf9
  v9 := Try.zeroValue9
  t46 := Try.underlying168
  a46 := Try.isAgg168
  z46 := Try.sizeOf168
  v46 := Try.zeroValue168
  t51 := Try.underlying187
  a51 := Try.isAgg187
  z51 := Try.sizeOf187
  v51 := Try.zeroValue187
  t53 := Try.underlying189
  a53 := Try.isAgg189
  z53 := Try.sizeOf189
  v53 := Try.zeroValue189 }
/-- bits.Len: "Len returns the minimum number of bits required to represent x; the result is 0 for x == 0.": IT RETURNS 'Lib.bitLen x'; the world is as it was. (A uint has 64 bits in the model.) ITS CALLEE bits.Len64 IS MET BY ITS OWN CONTRACT OFF THE SHELF (lay that first). (LAID: no walk: one application.) -/
theorem Try.bits_Len (x : Int) (w : World) (h0 : 0 ≤ x) (h1 : x ≤ 18446744073709551615) :
    Calls Try.prog 164 #[.int .u64 x] w fun e w' => e = .returned (.int .i64 (Lib.bitLen x.toNat)) ∧ w' = w := Any.bits_Len Try.lays125 x w h0 h1
def Try.lays215_ren : Go.Shelf.Ren := ⟨fun | 215 => 205 | n => n, fun | 3 => 3 | 4 => 4 | n => n, fun | n => n⟩
theorem Try.lays215 : Go.Proofs.Lays.n215 Try.prog Try.lays215_ren := {
  mixed := by kernel_rfl
  f215 := Try.func205.trans (congrArg some (by kernel_rfl))
  t3 := Try.underlying3
  a3 := Try.isAgg3
  z3 := Try.sizeOf3
  v3 := Try.zeroValue3
  t4 := Try.underlying4
  a4 := Try.isAgg4
  z4 := Try.sizeOf4
  v4 := Try.zeroValue4 }
open Go.RowKit in
/-- cmp.isNaN at int: 'x != x': false. (LAID: no walk: one application.) -/
theorem Try.cmp_isNaN_int (x : Int) (w : World) :
    Calls Try.prog 205 #[.int .i64 x] w fun e w' => e = .returned (.bool false) ∧ w' = w := Any.cmp_isNaN_int Try.lays215 x w
def Try.lays129_ren : Go.Shelf.Ren := ⟨fun | 129 => 197 | n => n, fun | 53 => 189 | 3 => 3 | 4 => 4 | 46 => 168 | 5 => 5 | 9 => 9 | n => n, fun | n => n⟩
theorem Try.lays129 : Go.Proofs.Lays.n129 Try.prog Try.lays129_ren := {
  mixed := by kernel_rfl
  f129 := Try.func197.trans (congrArg some (by kernel_rfl))
  t3 := Try.underlying3
  a3 := Try.isAgg3
  z3 := Try.sizeOf3
  v3 := Try.zeroValue3
  t4 := Try.underlying4
  a4 := Try.isAgg4
  z4 := Try.sizeOf4
  v4 := Try.zeroValue4
  t5 := Try.underlying5
  a5 := Try.isAgg5
  z5 := Try.sizeOf5
  v5 := Try.zeroValue5
  t9 := Try.underlying9
  a9 := Try.isAgg9
  z9 := Try.sizeOf9
  v9 := Try.zeroValue9
  t46 := Try.underlying168
  a46 := Try.isAgg168
  z46 := Try.sizeOf168
  v46 := Try.zeroValue168
  t53 := Try.underlying189
  a53 := Try.isAgg189
  z53 := Try.sizeOf189
  v53 := Try.zeroValue189 }
/-- bits.Len64: "Len64 returns the minimum number of bits required to represent x; the result is 0 for x == 0.": IT RETURNS 'Lib.bitLen x'; the world is as it was. ('h0', 'h1': x is a uint64.) (LAID: no walk: one application.) -/
theorem Try.bits_Len64 (x : Int) (w : World) (h0 : 0 ≤ x) (h1 : x ≤ 18446744073709551615) :
    Calls Try.prog 197 #[.int .u64 x] w fun e w' => e = .returned (.int .i64 (Lib.bitLen x.toNat)) ∧ w' = w := Any.bits_Len64 Try.lays129 x w h0 h1
def Try.lays189_ren : Go.Shelf.Ren := ⟨fun | 189 => 121 | 125 => 164 | 257 => 163 | 128 => 196 | 129 => 197 | 294 => 187 | 295 => 188 | 296 => 189 | 297 => 190 | 298 => 191 | 299 => 192 | 216 => 193 | 300 => 194 | 301 => 195 | 328 => 200 | 329 => 201 | 330 => 202 | 331 => 203 | 332 => 204 | 215 => 205 | 343 => 206 | n => n, fun | 28 => 24 | 3 => 3 | 46 => 168 | 0 => 0 | 51 => 187 | 53 => 189 | 4 => 4 | 183 => 181 | 182 => 180 | 131 => 77 | 5 => 5 | 9 => 9 | 218 => 190 | 222 => 194 | 228 => 196 | 229 => 52 | n => n, fun | n => n⟩
theorem Try.lays189 : Go.Proofs.Lays.n189 Try.prog Try.lays189_ren := {
  mixed := by kernel_rfl
  f125 := Try.func164.trans (congrArg some (by kernel_rfl))
  f128 := Try.func196.trans (congrArg some (by kernel_rfl))
  f129 := Try.func197.trans (congrArg some (by kernel_rfl))
  f189 := Try.func121.trans (congrArg some (by kernel_rfl))
  f215 := Try.func205.trans (congrArg some (by kernel_rfl))
  f216 := Try.func193.trans (congrArg some (by kernel_rfl))
  f257 := Try.func163.trans (congrArg some (by kernel_rfl))
  f294 := Try.func187.trans (congrArg some (by kernel_rfl))
  f295 := Try.func188.trans (congrArg some (by kernel_rfl))
  f296 := Try.func189.trans (congrArg some (by kernel_rfl))
  f297 := Try.func190.trans (congrArg some (by kernel_rfl))
  f298 := Try.func191.trans (congrArg some (by kernel_rfl))
  f299 := Try.func192.trans (congrArg some (by kernel_rfl))
  f300 := Try.func194.trans (congrArg some (by kernel_rfl))
  f301 := Try.func195.trans (congrArg some (by kernel_rfl))
  f328 := Try.func200.trans (congrArg some (by kernel_rfl))
  f329 := Try.func201.trans (congrArg some (by kernel_rfl))
  f330 := Try.func202.trans (congrArg some (by kernel_rfl))
  f331 := Try.func203.trans (congrArg some (by kernel_rfl))
  f332 := Try.func204.trans (congrArg some (by kernel_rfl))
  f343 := Try.func206.trans (congrArg some (by kernel_rfl))
  t0 := Try.underlying0
  a0 := Try.isAgg0
  z0 := Try.sizeOf0
  v0 := Try.zeroValue0
  t3 := Try.underlying3
  a3 := Try.isAgg3
  z3 := Try.sizeOf3
  v3 := Try.zeroValue3
  t4 := Try.underlying4
  a4 := Try.isAgg4
  z4 := Try.sizeOf4
  v4 := Try.zeroValue4
  t5 := Try.underlying5
  a5 := Try.isAgg5
  z5 := Try.sizeOf5
  v5 := Try.zeroValue5
  t9 := Try.underlying9
  a9 := Try.isAgg9
  z9 := Try.sizeOf9
  v9 := Try.zeroValue9
  t28 := Try.underlying24
  a28 := Try.isAgg24
  z28 := Try.sizeOf24
  v28 := Try.zeroValue24
  t46 := Try.underlying168
  a46 := Try.isAgg168
  z46 := Try.sizeOf168
  v46 := Try.zeroValue168
  t51 := Try.underlying187
  a51 := Try.isAgg187
  z51 := Try.sizeOf187
  v51 := Try.zeroValue187
  t53 := Try.underlying189
  a53 := Try.isAgg189
  z53 := Try.sizeOf189
  v53 := Try.zeroValue189
  t131 := Try.underlying77
  a131 := Try.isAgg77
  z131 := Try.sizeOf77
  v131 := Try.zeroValue77
  t182 := Try.underlying180
  a182 := Try.isAgg180
  z182 := Try.sizeOf180
  v182 := Try.zeroValue180
  t183 := Try.underlying181
  a183 := Try.isAgg181
  z183 := Try.sizeOf181
  v183 := Try.zeroValue181
  t218 := Try.underlying190
  a218 := Try.isAgg190
  z218 := Try.sizeOf190
  v218 := Try.zeroValue190
  t222 := Try.underlying194
  a222 := Try.isAgg194
  z222 := Try.sizeOf194
  v222 := Try.zeroValue194
  t228 := Try.underlying196
  a228 := Try.isAgg196
  z228 := Try.sizeOf196
  v228 := Try.zeroValue196
  t229 := Try.underlying52
  a229 := Try.isAgg52
  z229 := Try.sizeOf52
  v229 := Try.zeroValue52 }
open Go.Sort Go.RowKit in
theorem Try.slices_Sort_int (blk off cap : Nat) (zs : List Int) (w : World) (hH : Holds (Value.int .i64) w blk off zs.toArray) (hblk : blk < w.heap.size) (hsz : zs.length < 4611686018427387904) :
    Calls Try.prog 121 #[.slice (some ⟨blk, off, none⟩) zs.length cap] w fun e w' =>
      e = .returned (.tuple #[]) ∧ ∃ n os, w' = grow (putRow (Value.int .i64) (Sort.ahead w n) blk off (zs.mergeSort fun x y => decide (x ≤ y)).toArray) os := Any.slices_Sort_int Try.lays189 blk off cap zs w hH hblk hsz
def Try.lays112_ren : Go.Shelf.Ren := ⟨fun | 112 => 161 | n => n, fun | 28 => 24 | 3 => 3 | 4 => 4 | 0 => 0 | n => n, fun | n => n⟩
theorem Try.lays112 : Go.Proofs.Lays.n112 Try.prog Try.lays112_ren := {
  mixed := by kernel_rfl
  f112 := Try.func161.trans (congrArg some (by kernel_rfl))
  t0 := Try.underlying0
  a0 := Try.isAgg0
  z0 := Try.sizeOf0
  v0 := Try.zeroValue0
  t3 := Try.underlying3
  a3 := Try.isAgg3
  z3 := Try.sizeOf3
  v3 := Try.zeroValue3
  t4 := Try.underlying4
  a4 := Try.isAgg4
  z4 := Try.sizeOf4
  v4 := Try.zeroValue4
  t28 := Try.underlying24
  a28 := Try.isAgg24
  z28 := Try.sizeOf24
  v28 := Try.zeroValue24 }
open Go.RowKit Go.Lib Go.Sort in
/-- slices.Reverse at []int, over an array: Go's loop from the two ends inward is walked; it makes 'Sort.reverseLoop 0 (len - 1)', which is 'Array.reverse' (Derived/Lib/SlicesMore.lean). (LAID: no walk: one application.) -/
theorem Try.slices_Reverse_int_arr (blk off cap : Nat) (d : Array Int) (w : World) (hH : Holds encI w blk off d) (hsz : d.size ≤ 9223372036854775807) :
    Calls Try.prog 161 #[.slice (some ⟨blk, off, none⟩) d.size cap] w fun e w' => e = .returned (.tuple #[]) ∧ ∃ n, w' = putRow encI (Sort.ahead w n) blk off d.reverse := Any.slices_Reverse_int_arr Try.lays112 blk off cap d w hH hsz
open Go.RowKit Go.Lib Go.Sort in
/-- slices.Reverse at []int: "Reverse reverses the elements of the slice in place.": THE SLICE's CELLS HOLD 'zs.reverse' BEHIND THE CALL; all else is as it was, but for the count of draws (the exchange 's[i], s[j] = s[j], s[i]' draws its order, once a round). IN THE WORDS OF slices.Sort's CONTRACT: 'Holds': the cells hold zs and none is frozen; 'putRow': the world with those cells holding another array. A slice of length 0 that is not nil is among them ('zs = []'); nil: '.._nil'. (LAID: no walk: one application.) -/
theorem Try.slices_Reverse_int (blk off cap : Nat) (zs : List Int) (w : World) (hH : Holds (Value.int .i64) w blk off zs.toArray) (hsz : zs.length ≤ 9223372036854775807) :
    Calls Try.prog 161 #[.slice (some ⟨blk, off, none⟩) zs.length cap] w fun e w' => e = .returned (.tuple #[]) ∧ ∃ n, w' = putRow (Value.int .i64) (Sort.ahead w n) blk off zs.reverse.toArray := Any.slices_Reverse_int Try.lays112 blk off cap zs w hH hsz
open Go.RowKit Go.Lib Go.Sort in
/-- The same at a slice of length 0, a nil one too: nothing is read, nothing written, nothing drawn. (LAID: no walk: one application.) -/
theorem Try.slices_Reverse_int_empty (a : Option Addr) (cap : Nat) (w : World) :
    Calls Try.prog 161 #[.slice a 0 cap] w fun e w' => e = .returned (.tuple #[]) ∧ w' = w := Any.slices_Reverse_int_empty Try.lays112 a cap w
def Try.lays111_ren : Go.Shelf.Ren := ⟨fun | 111 => 92 | n => n, fun | 28 => 24 | 3 => 3 | 4 => 4 | 0 => 0 | n => n, fun | n => n⟩
theorem Try.lays111 : Go.Proofs.Lays.n111 Try.prog Try.lays111_ren := {
  mixed := by kernel_rfl
  f111 := Try.func92.trans (congrArg some (by kernel_rfl))
  t0 := Try.underlying0
  a0 := Try.isAgg0
  z0 := Try.sizeOf0
  v0 := Try.zeroValue0
  t3 := Try.underlying3
  a3 := Try.isAgg3
  z3 := Try.sizeOf3
  v3 := Try.zeroValue3
  t4 := Try.underlying4
  a4 := Try.isAgg4
  z4 := Try.sizeOf4
  v4 := Try.zeroValue4
  t28 := Try.underlying24
  a28 := Try.isAgg24
  z28 := Try.sizeOf24
  v28 := Try.zeroValue24 }
open Go.RowKit Go.Lib in
/-- slices.Equal at []int: "Equal reports whether two slices are equal: the same length and all elements equal. If the lengths are different, Equal returns false. Otherwise, the elements are compared in increasing index order, and the comparison stops at the first unequal pair. Empty and nil slices are considered equal.": IT RETURNS WHETHER THE TWO LISTS OF ELEMENTS ARE ONE; the world is as it was but for the count of draws (the test 's1[i] != s2[i]' has two reads, whose order the model draws, once a round). 'xs', 'ys': what the cells behind the two addresses hold (the spare capacity too, if you have it); 'xs.take n', 'ys.take m': the elements. THE TWO SLICES MAY OVERLAP. (LAID: no walk: one application.) -/
theorem Try.slices_Equal_int (b1 o1 n c b2 o2 m d : Nat) (xs ys : List Int) (w : World) (hx : n ≤ xs.length) (hy : m ≤ ys.length) (hbig : n ≤ 9223372036854775807) (hbig2 : m ≤ 9223372036854775807) (hc1 : ∀ j, j < xs.length → w.cell? ⟨b1, o1 + j, none⟩ = some (.int .i64 (xs.getD j 0))) (hc2 : ∀ j, j < ys.length → w.cell? ⟨b2, o2 + j, none⟩ = some (.int .i64 (ys.getD j 0))) :
    Calls Try.prog 92 #[.slice (some ⟨b1, o1, none⟩) n c, .slice (some ⟨b2, o2, none⟩) m d] w fun e w' => e = .returned (.bool (xs.take n == ys.take m)) ∧ ∃ q, w' = w.drewN q := Any.slices_Equal_int Try.lays111 b1 o1 n c b2 o2 m d xs ys w hx hy hbig hbig2 hc1 hc2
open Go.RowKit Go.Lib in
/-- The same where the first is of length 0 (a nil one too): no cell is asked for. (LAID: no walk: one application.) -/
theorem Try.slices_Equal_int_empty (a1 a2 : Option Addr) (c m d : Nat) (w : World) (hbig2 : m ≤ 9223372036854775807) :
    Calls Try.prog 92 #[.slice a1 0 c, .slice a2 m d] w fun e w' => e = .returned (.bool (decide (m = 0))) ∧ w' = w := Any.slices_Equal_int_empty Try.lays111 a1 a2 c m d w hbig2
def Try.laysNm215_ren : Go.Shelf.Ren := ⟨fun | 15 => 89 | n => n, fun | 22 => 24 | 3 => 3 | 4 => 4 | n => n, fun | n => n⟩
theorem Try.laysNm215 : Go.Proofs.Lays2.n15 Try.prog Try.laysNm215_ren := {
  mixed := by kernel_rfl
  f15 := Try.func89.trans (congrArg some (by kernel_rfl))
  t3 := Try.underlying3
  a3 := Try.isAgg3
  z3 := Try.sizeOf3
  v3 := Try.zeroValue3
  t4 := Try.underlying4
  a4 := Try.isAgg4
  z4 := Try.sizeOf4
  v4 := Try.zeroValue4
  t22 := Try.underlying24
  a22 := Try.isAgg24
  z22 := Try.sizeOf24
  v22 := Try.zeroValue24
  i3 := by kernel_rfl }
open Go.RowKit Go.Lib in
/-- slices.Clone at []int: "Clone returns a copy of the slice. The elements are copied using assignment, so this is a shallow clone. The result may have additional unused capacity. The result preserves the nilness of s.": OF A SLICE THAT IS NOT nil IT RETURNS A SLICE THAT IS NOT nil, OF THE SAME ELEMENTS, IN MEMORY OF THE CALL's OWN: in the how-to's words (6f): 'w'.ownsRow B e 1 v' n cells': v' begins at the head of a row among the blocks from B on (B: the heap's size at the call), not frozen, whose first cells are the elements · 'Below B w w'': below B all is as it was. The capacity is whatever the run-time gives. 'zs': what the cells behind the slice's address hold; 'zs.take n': its elements. (LAID: no walk: one application.) -/
theorem Try.slices_Clone_int (b off n c : Nat) (zs : List Int) (w : World) (hz : n ≤ zs.length) (hbig : n * 8 ≤ 140737488355328) (hc : ∀ j, j < zs.length → w.cell? ⟨b, off + j, none⟩ = some (.int .i64 (zs.getD j 0))) :
    Calls Try.prog 89 #[.slice (some ⟨b, off, none⟩) n c] w fun e w' => ∃ v', e = .returned v' ∧ w'.ownsRow w.heap.size 3 1 v' n ((zs.take n).map (Value.int .i64)) ∧ v' ≠ .slice none 0 0 ∧ Below w.heap.size w w' := Any.slices_Clone_int Try.laysNm215 b off n c zs w hz hbig hc
open Go.RowKit Go.Lib in
/-- The same at nil: nil comes back; the world is as it was. (LAID: no walk: one application.) -/
theorem Try.slices_Clone_int_nil (n c : Nat) (w : World) :
    Calls Try.prog 89 #[.slice none n c] w fun e w' => e = .returned (.slice none 0 0) ∧ w' = w := Any.slices_Clone_int_nil Try.laysNm215 n c w
open Go.RowKit Go.Lib in
/-- The same at a slice of length 0 that is not nil, WHATEVER ITS ADDRESS (no cell is asked for): a slice that is not nil and owns nothing comes back. (LAID: no walk: one application.) -/
theorem Try.slices_Clone_int_zero (a : Addr) (c : Nat) (w : World) :
    Calls Try.prog 89 #[.slice (some a) 0 c] w fun e w' => ∃ v', e = .returned v' ∧ w'.ownsRow w.heap.size 3 1 v' 0 [] ∧ v' ≠ .slice none 0 0 ∧ Below w.heap.size w w' := Any.slices_Clone_int_zero Try.laysNm215 a c w
def Try.laysNm220_ren : Go.Shelf.Ren := ⟨fun | 20 => 122 | n => n, fun | 22 => 24 | 3 => 3 | 4 => 4 | 0 => 0 | n => n, fun | n => n⟩
theorem Try.laysNm220 : Go.Proofs.Lays2.n20 Try.prog Try.laysNm220_ren := {
  mixed := by kernel_rfl
  f20 := Try.func122.trans (congrArg some (by kernel_rfl))
  t0 := Try.underlying0
  a0 := Try.isAgg0
  z0 := Try.sizeOf0
  v0 := Try.zeroValue0
  t3 := Try.underlying3
  a3 := Try.isAgg3
  z3 := Try.sizeOf3
  v3 := Try.zeroValue3
  t4 := Try.underlying4
  a4 := Try.isAgg4
  z4 := Try.sizeOf4
  v4 := Try.zeroValue4
  t22 := Try.underlying24
  a22 := Try.isAgg24
  z22 := Try.sizeOf24
  v22 := Try.zeroValue24
  i3 := by kernel_rfl }
open Go.RowKit Go.Lib Go.Sort in
/-- slices.Compact at []int, over an array: the library's two loops are walked. (LAID: no walk: one application.) -/
theorem Try.slices_Compact_int_arr (blk off cap : Nat) (d : Array Int) (w : World) (hH : Holds encI w blk off d) (hsz : d.size ≤ 9223372036854775807) (hcap : d.size ≤ cap) :
    Calls Try.prog 122 #[.slice (some ⟨blk, off, none⟩) d.size cap] w fun e w' => e = .returned (.slice (some ⟨blk, off, none⟩) (compactUpTo d d.size).length cap) ∧ ∃ q, w' = putRow encI (Sort.ahead w q) blk off (compactUpTo d d.size ++ List.replicate (d.size - (compactUpTo d d.size).length) 0).toArray := Any.slices_Compact_int_arr Try.laysNm220 blk off cap d w hH hsz hcap
open Go.RowKit Go.Lib Go.Sort in
/-- slices.Compact at []int: "Compact replaces consecutive runs of equal elements with a single copy. This is like the uniq command found on Unix. Compact modifies the contents of the slice s and returns the modified slice, which may have a smaller length. Compact zeroes the elements between the new length and the original length. The result preserves the nilness of s.": IT RETURNS THE SLICE CUT TO 'Lib.compact zs'; ITS CELLS HOLD 'Lib.compact zs', THEN ZERO VALUES up to the old length; all else is as it was, but for the count of draws. IN THE WORDS OF slices.Sort's CONTRACT ('Holds', 'putRow'): so the everyday 'slices.Sort(xs); xs = slices.Compact(xs)' goes from the one contract to the other. It asks 'zs.length ≤ cap' (every slice's: the reslicing 's[:k]' looks at it). Length 0, nil: '.._empty'. (LAID: no walk: one application.) -/
theorem Try.slices_Compact_int (blk off cap : Nat) (zs : List Int) (w : World) (hH : Holds (Value.int .i64) w blk off zs.toArray) (hsz : zs.length ≤ 9223372036854775807) (hcap : zs.length ≤ cap) :
    Calls Try.prog 122 #[.slice (some ⟨blk, off, none⟩) zs.length cap] w fun e w' => e = .returned (.slice (some ⟨blk, off, none⟩) (Lib.compact zs).length cap) ∧ ∃ q, w' = putRow (Value.int .i64) (Sort.ahead w q) blk off (Lib.compact zs ++ List.replicate (zs.length - (Lib.compact zs).length) 0).toArray := Any.slices_Compact_int Try.laysNm220 blk off cap zs w hH hsz hcap
open Go.RowKit Go.Lib Go.Sort in
/-- The same at a slice of length 0, a nil one too: it comes back as it is. (LAID: no walk: one application.) -/
theorem Try.slices_Compact_int_empty (a : Option Addr) (cap : Nat) (w : World) :
    Calls Try.prog 122 #[.slice a 0 cap] w fun e w' => e = .returned (.slice a 0 cap) ∧ w' = w := Any.slices_Compact_int_empty Try.laysNm220 a cap w
def Try.laysNm237_ren : Go.Shelf.Ren := ⟨fun | 37 => 205 | n => n, fun | 3 => 3 | 4 => 4 | n => n, fun | n => n⟩
theorem Try.laysNm237 : Go.Proofs.Lays2.n37 Try.prog Try.laysNm237_ren := {
  mixed := by kernel_rfl
  f37 := Try.func205.trans (congrArg some (by kernel_rfl))
  t3 := Try.underlying3
  a3 := Try.isAgg3
  z3 := Try.sizeOf3
  v3 := Try.zeroValue3
  t4 := Try.underlying4
  a4 := Try.isAgg4
  z4 := Try.sizeOf4
  v4 := Try.zeroValue4 }
open Go.RowKit Go.Lib in
/-- cmp.isNaN[int]: 'x != x': false. (LAID: no walk: one application.) -/
theorem Try.cmp_isNaN_int2 (x : Int) (w : World) :
    Calls Try.prog 205 #[.int .i64 x] w fun e w' => e = .returned (.bool false) ∧ w' = w := Any.cmp_isNaN_int2 Try.laysNm237 x w
def Try.laysNm231_ren : Go.Shelf.Ren := ⟨fun | 31 => 193 | 37 => 205 | n => n, fun | 3 => 3 | 4 => 4 | n => n, fun | n => n⟩
theorem Try.laysNm231 : Go.Proofs.Lays2.n31 Try.prog Try.laysNm231_ren := {
  mixed := by kernel_rfl
  f31 := Try.func193.trans (congrArg some (by kernel_rfl))
  f37 := Try.func205.trans (congrArg some (by kernel_rfl))
  t3 := Try.underlying3
  a3 := Try.isAgg3
  z3 := Try.sizeOf3
  v3 := Try.zeroValue3
  t4 := Try.underlying4
  a4 := Try.isAgg4
  z4 := Try.sizeOf4
  v4 := Try.zeroValue4 }
open Go.RowKit Go.Lib in
/-- cmp.Less[int]: "Less reports whether x is less than y.": 'x < y'; the world is as it was. (LAID: no walk: one application.) -/
theorem Try.cmp_Less_int2 (x y : Int) (w : World) :
    Calls Try.prog 193 #[.int .i64 x, .int .i64 y] w fun e w' => e = .returned (.bool (decide (x < y))) ∧ w' = w := Any.cmp_Less_int2 Try.laysNm231 x y w
open Go.RowKit Go.Lib Go.Sort in
/-- slices.Reverse at []int, of an argument: the n cells hold the elements in reverse. (LAID: no walk: one application.) -/
theorem Try.slices_Reverse_int_cells (b off n c : Nat) (zs : List Int) (w : World) (hz : n ≤ zs.length) (hbig : n ≤ 9223372036854775807) (hc : ∀ j, j < zs.length → w.cell? ⟨b, off + j, none⟩ = some (.int .i64 (zs.getD j 0))) (hf : ∀ j, j < n → w.frozen? ⟨b, off + j, none⟩ = false) :
    Calls Try.prog 161 #[.slice (some ⟨b, off, none⟩) n c] w fun e w' => e = .returned (.tuple #[]) ∧ ∃ q, w' = (w.drewN q).setCells b off ((zs.take n).reverse.map (Value.int .i64)) := Any.slices_Reverse_int_cells Try.lays112 b off n c zs w hz hbig hc hf
open Go.RowKit Go.Lib Go.Sort in
/-- slices.Compact at []int, of an argument: the slice cut to 'Lib.compact (elements)'; the n cells hold that, then zeros. (LAID: no walk: one application.) -/
theorem Try.slices_Compact_int_cells (b off n c : Nat) (zs : List Int) (w : World) (hz : n ≤ zs.length) (hbig : n ≤ 9223372036854775807) (hcap : n ≤ c) (hc : ∀ j, j < zs.length → w.cell? ⟨b, off + j, none⟩ = some (.int .i64 (zs.getD j 0))) (hf : ∀ j, j < n → w.frozen? ⟨b, off + j, none⟩ = false) :
    Calls Try.prog 122 #[.slice (some ⟨b, off, none⟩) n c] w fun e w' => e = .returned (.slice (some ⟨b, off, none⟩) (Lib.compact (zs.take n)).length c) ∧ ∃ q, w' = (w.drewN q).setCells b off ((Lib.compact (zs.take n) ++ List.replicate (n - (Lib.compact (zs.take n)).length) 0).map (Value.int .i64)) := Any.slices_Compact_int_cells Try.laysNm220 b off n c zs w hz hbig hcap hc hf
open Go.RowKit Go.Sort in
/-- .. and plain. (LAID: no walk: one application.) -/
theorem Try.slices_Sort_int_none (p : Option Addr) (cap : Nat) (w : World) :
    Calls Try.prog 121 #[.slice p 0 cap] w fun e w' => e = .returned (.tuple #[]) ∧ w' = w := Any.slices_Sort_int_none Try.lays189 p cap w
open Go.RowKit Go.Lib in
theorem Try.slices_Equal_int_lens (a1 a2 : Option Addr) (n c m d : Nat) (w : World) (hnm : n ≠ m) :
    Calls Try.prog 92 #[.slice a1 n c, .slice a2 m d] w fun e w' => e = .returned (.bool false) ∧ w' = w := Any.slices_Equal_int_lens Try.lays111 a1 a2 n c m d w hnm
def Try.laysSlE041_f89_ren : Go.Shelf.Ren := ⟨fun | 41 => 89 | n => n, fun | 22 => 24 | 23 => 3 | 4 => 4 | n => n, fun | n => n⟩
theorem Try.laysSlE041_f89 : Go.Proofs.SlLaysE0.n41 Try.prog Try.laysSlE041_f89_ren := {
  mixed := by kernel_rfl
  f41 := ⟨Try.f89.name, by decide, Try.func89.trans (congrArg some (by kernel_rfl))⟩
  t4 := Try.underlying4
  a4 := Try.isAgg4
  z4 := Try.sizeOf4
  v4 := Try.zeroValue4
  t22 := Try.underlying24
  a22 := Try.isAgg24
  z22 := Try.sizeOf24
  v22 := Try.zeroValue24 }
open Go.RowKit Go.Lib in
/-- slices.Clone: "Clone returns a copy of the slice. The elements are copied using assignment, so this is a shallow clone. The result may have additional unused capacity. The result preserves the nilness of s.": OF A SLICE THAT IS NOT nil IT RETURNS A SLICE THAT IS NOT nil, OF THE SAME CELLS, IN MEMORY OF THE CALL's OWN ('ownsRow': the how-to's 6f); below the heap's size at the call all is as it was. (LAID AT THE INSTANCE 'slices.Clone[[]int,int]': no walk: one application.) -/
theorem Try.slices_Clone (i0 : TypeInfo) (z : Value) (size bytes : Nat) (hi : Try.prog.info? 3 = some i0) (hz0 : i0.zero = some z) (hz1 : i0.size = size) (hz2 : i0.bytes = bytes) (hzs : z.cells.size = size) (hsz : 0 < size) (z23 : ∀ w, (Go.sizeOf 3).run Try.prog w = .ok size w) (b off n c : Nat) (news : List Value) (w : World) (hl : news.length = n * size) (hn : n ≤ maxLen) (hbig : n * bytes ≤ 140737488355328) (hc : ∀ j u, news[j]? = some u → w.cell? ⟨b, off + j, none⟩ = some u) (h1 : ∀ u ∈ news, u.oneCell' = true) :
    Calls Try.prog 89 #[.slice (some ⟨b, off, none⟩) n c] w fun e w' => ∃ v', e = .returned v' ∧ w'.ownsRow w.heap.size 3 size v' n news ∧ v' ≠ .slice none 0 0 ∧ Below w.heap.size w w' := AnyE.slices_Clone Try.laysSlE041_f89 i0 z size bytes hi hz0 hz1 hz2 hzs hsz z23 b off n c news w hl hn hbig hc h1
open Go.RowKit Go.Lib in
/-- The same at nil: nil comes back; the world is as it was; nothing is asked of the element's type. (LAID AT THE INSTANCE 'slices.Clone[[]int,int]': no walk: one application.) -/
theorem Try.slices_Clone_nil (n c : Nat) (w : World) :
    Calls Try.prog 89 #[.slice none n c] w fun e w' => e = .returned (.slice none 0 0) ∧ w' = w := AnyE.slices_Clone_nil Try.laysSlE041_f89 n c w
end Go.Proofs
namespace Go.Proofs.Ytgmcajojigedaaa
open Go.RowKit Go.Maps
theorem reverse_own {w : World} {B g n cap : Nat} {xs : List Int} (h : OwnI w B (.slice (some ⟨g, 0, none⟩) n cap) xs) (e : xs.length = n) (h63 : n ≤ 9223372036854775807) :
    Calls Try.prog 161 #[.slice (some ⟨g, 0, none⟩) n cap] w fun e w' => e = .returned (.tuple #[]) ∧ OwnI w' B (.slice (some ⟨g, 0, none⟩) n cap) xs.reverse ∧ w.grownBy w' (some g) := by
  subst e
  refine (Try.slices_Reverse_int g 0 cap xs w (own_holds h rfl) h63).mono ?_
  rintro e w' ⟨rfl, q, rfl⟩
  obtain ⟨h1, h2⟩ := own_put (ys := xs.reverse) q h rfl (by simp)
  exact ⟨rfl, h1, h2⟩
theorem make_bools (w : World) (n : Nat) (hn : n ≤ 1000000) : ∃ w1, (Instr.makeSlice 27 (.int .i64 (n : Int)) (.int .i64 (n : Int))).run Try.prog w = .ok (.slice (some ⟨w.heap.size, 0, none⟩) n n) w1 ∧ OwnB w1 w.heap.size (.slice (some ⟨w.heap.size, 0, none⟩) n n) (List.replicate n false) ∧ w.grownBy w1 none ∧ w.heap.size < w1.heap.size := by
  obtain ⟨i, hi, h0, h1, h2⟩ := info_parts Try.info4
  obtain ⟨w1, h3, h4, h5⟩ := run_make_full (P := Try.prog) w w.heap.size 27 4 i _ 1 Try.underlying27 hi h0 h1 .i64 .i64 n (by rw [h2]; omega) (by unfold maxLen; omega) (Nat.le_refl _)
  refine ⟨w1, h3, ?_, h5, ?_⟩
  · unfold OwnB OwnOf
    rw [List.length_replicate, List.map_replicate]
    have : (madeCells (Value.bool false).cells (n * 1)).toList = List.replicate n (Value.bool false) := by
      rw [Nat.mul_one]
      apply List.ext_getElem?
      intro k
      simp [madeCells, Value.cells]
      by_cases hk : k < n <;> simp [hk, List.getElem?_replicate, Nat.mod_one]
    rw [this] at h4
    exact h4
  · have := World.ownsRow.lt h4 w.heap.size rfl
    omega
section
variable {B0 p m : Nat} {A : Option Addr} {c' : Nat} {T : TS} {w : World}
def PartsRet (w : World) (T : TS) (i : Nat) (e : Ending) (w' : World) : Prop := ∃ v, e = .returned v ∧ OwnI w' w.heap.size v ((partsN T i).map fun k => ((k : Nat) : Int)) ∧ Below w.heap.size w w'
set_option maxRecDepth 100000 in
set_option maxHeartbeats 4000000 in
theorem parts_yes (hb : Tb B0 w p m A c' T) (hw : TWf T) {i : Nat} {t0 : Tm} (hi : T.nodes[i]? = some t0) :
    Calls Try.prog 118 #[.pointer (some ⟨p, 0, none⟩), .int .i64 i] w (PartsRet w T i) := by
  have hil := (List.getElem?_eq_some_iff.1 hi).1
  have hsz := hw.size
  have hi16 : i < 16384 := by omega
  have HB := Lib.hid hb
  have HIL := Lib.hid hil
  have HAS : Hid (hasB T (i : Int) = true) := decide_eq_true (by omega)
  have HPL : Hid (p < w.heap.size) := lt_of_some hb.blk
  obtain ⟨w1, hmk, hown, hgr, hS⟩ := make_bools w (i + 1) (by omega)
  obtain ⟨S, hSe⟩ : ∃ S, w.heap.size = S := ⟨_, rfl⟩
  have hmk' : (Instr.makeSlice 27 (.int .i64 ((i : Int) + 1)) (.int .i64 ((i : Int) + 1))).run Try.prog w = .ok (.slice (some ⟨S, 0, none⟩) (i + 1) (i + 1)) w1 := by rw [← hSe]; exact_mod_cast hmk
  rw [hSe] at hown hS
  have hB1 : Below w.heap.size w w1 := ⟨hgr.os, hgr.tape, hgr.output, hgr.size, fun k hk => hgr.block k hk (by simp)⟩
  obtain ⟨z0, _, hc0⟩ := hown.cell (by simp) i (by omega)
  have hf0 := hown.frozen (by simp) i
  have HOWN := Lib.hid (hown.set (by simp) i true)
  have HB1 := Lib.hid hB1
  have HSE := Lib.hid hSe
  have HSL := Lib.hid hS
  have hiN : (i : Int) < ((i + 1 : Nat) : Int) := by omega
  clear hb hi hil hsz hmk hgr hB1 hown hSe hS
  go_enter Try.func118, Try.ntmps118
  go_wp2_with (go_at_call 117; go_must (refine (exists_v HB.out HAS.out).mono ?_; rintro e w' ⟨rfl, rfl⟩))
  clear hmk' hc0 hf0
  obtain ⟨w2, hw2⟩ : ∃ w2 : World, w1.setCell ⟨S, i, none⟩ (.bool true) = w2 := ⟨_, rfl⟩
  have HO2 : Hid (OwnB w2 S (.slice (some ⟨S, 0, none⟩) (i + 1) (i + 1)) ((List.range (i + 1)).map (mK T i 0))) := by
    show OwnB _ _ _ _
    rw [← hw2]
    have e : (List.range (i + 1)).map (mK T i 0) = (List.replicate (i + 1) false).set i true := by
      have e0 : List.replicate (i + 1) false = (List.range (i + 1)).map fun _ => false := by
        apply List.ext_getElem?; intro k; by_cases hk : k < i + 1 <;> simp [hk, List.getElem?_replicate]
      rw [e0, set_range]
      apply List.map_congr_left
      intro k _
      show (k == i) = _
      by_cases hk : k = i <;> simp [hk]
    rw [e]
    exact HOWN.out
  have HB2 : Hid (Below w.heap.size w w2) := by
    show Below _ _ _
    rw [← hw2]; exact HB1.out.setCell (by show _ ≤ S; have := HSE.out; omega) _
  have HS2 : Hid (S < w2.heap.size) := by
    show S < _
    rw [← hw2, size_setCell]; exact HSL.out
  rw [hw2]
  clear hw2 HOWN HB1 HSL
  go_loopw [6, 7, 8, 9, 10, 11, 12, 53] (fun u6 u7 _ _ _ _ _ _ wr => ∃ (K : Int) (j : Nat) (vo : Value), vo = u6 ∧ K + j = i ∧ -1 ≤ K ∧ u7 = .int .i64 K ∧ OwnB wr S (.slice (some ⟨S, 0, none⟩) (i + 1) (i + 1)) ((List.range (i + 1)).map (mK T i j)) ∧ OwnI wr w2.heap.size vo (outK T i j) ∧ Below w.heap.size w wr ∧ w2.heap.size ≤ wr.heap.size) (fun _ K _ _ _ _ _ _ _ => (intOf K + 1).toNat)
  case atStart => exact ⟨i, 0, _, rfl, by omega, by omega, rfl, HO2.out, OwnOf.nil _ _, HB2.out, Nat.le_refl _⟩
  case round =>
    obtain ⟨K, j, vo, rfl, hKj, hK1, rfl, hseen, hout, hbw, hz⟩ := hrel
    rename_i wr
    by_cases hK : 0 ≤ K
    · obtain ⟨k, rfl⟩ := Int.eq_ofNat_of_zero_le hK
      have hk : i - j = k := by omega
      have hki : k ≤ i := by omega
      have hkI : (k : Int) < ((i + 1 : Nat) : Int) := by omega
      obtain ⟨y, hy, hcy⟩ := hseen.cell (by simp) k (by omega)
      have hy' : y = mK T i j k := by
        rw [List.getElem?_map, List.getElem?_range (by omega)] at hy
        exact (Option.some.inj hy).symm
      subst hy'
      have HK := Lib.hid hk
      have HKJ := Lib.hid hKj
      have HSEEN := Lib.hid hseen
      have HOUT := Lib.hid hout
      have HBW := Lib.hid hbw
      have HZ := Lib.hid hz
      clear hy hk hKj hseen hout hbw hz hK hK1
      rcases hm : mK T i j k with _ | _
      · rw [hm] at hcy
        have HN : Hid (∀ y, mK T i (j + 1) y = mK T i j y) := no_mark (by rw [HK.out]; exact hm)
        have HO : Hid (outK T i (j + 1) = outK T i j) := by show _ = _; rw [outK, HK.out, hm]; simp
        clear hm
        go_wp2
        go_roundw
        case rel =>
          refine ⟨(k : Int) - 1, j + 1, _, rfl, by have := HKJ.out; omega, by omega, by go_num, ?_, by rw [HO.out]; exact HOUT.out, HBW.out, HZ.out⟩
          rw [List.map_congr_left (fun y _ => HN.out y)]; exact HSEEN.out
        case measure => first | (simp [intOf]; done) | (simp [intOf]; omega)
      · rw [hm] at hcy
        have hkl : k < T.nodes.length := by have := HIL.out; omega
        have hklI : (k : Int) < (T.nodes.length : Int) := by omega
        have HO : Hid (outK T i (j + 1) = outK T i j ++ [(k : Int)]) := by show _ = _; rw [outK, HK.out, hm]; simp
        have HM : Hid (mK T i j (i - j) = true) := by show _ = _; rw [HK.out]; exact hm
        have hol : (outK T i j).length ≤ j := by
          have : ∀ j, (outK T i j).length ≤ j := fun j => by
            induction j with
            | zero => simp [outK]
            | succ j ih => rw [outK]; split <;> simp <;> omega
          exact this j
        have hj16 : j < 16384 := by have := HKJ.out; omega
        have hout := HOUT.out
        clear hm hcy
        have hc1 := (HB.out.below HBW.out).cell1
        have hcy := (HSEEN.out.cell (by simp) k (by omega))
        obtain ⟨y, hy, hcy⟩ := hcy
        have hy' : y = true := by
          rw [List.getElem?_map, List.getElem?_range (by omega)] at hy
          have := (Option.some.inj hy).symm
          rw [this, ← HK.out]; exact HM.out
        subst hy'
        clear hy
        go_wp2_with (at_builtin; go_must (refine app1 (Value.int .i64) oneInt 24 3 8 Try.underlying24 Try.info3 rfl rfl _ _ rfl _ _ _ _ hout rfl rfl ?_ ?_ ?_ ?_))
        · omega
        · omega
        · exact HZ.out
        intro v' w3 ho3 hg3
        rw [← HO.out] at ho3
        have hb3 : Below w2.heap.size wr w3 := (show Below w2.heap.size wr wr from Below.refl _ _).grown hg3 HZ.out (fun q hq => (hout.lt q hq).1)
        have HO3 := Lib.hid ho3
        have HB3 := Lib.hid (HBW.out.trans (hb3.mono (by have := HB2.out.size; omega)))
        have HSEEN3 : Hid (OwnB w3 S (.slice (some ⟨S, 0, none⟩) (i + 1) (i + 1)) ((List.range (i + 1)).map (mK T i j))) := HSEEN.out.kept hg3 (.inr (fun e => by
          have := (hout.lt S (by rw [← e]; rfl)).1; have := HS2.out; omega))
        have HZ3 : Hid (w2.heap.size ≤ w3.heap.size) := by have := HZ.out; have := hb3.size; show _ ≤ _; omega
        clear ho3 hg3 hb3 hout hc1 hcy hol
        have ht3 := HB.out.below HB3.out
        have hc1 := ht3.cell1
        obtain ⟨bn, t, hA, ht, hcell⟩ := ht3.nodes.at_ hkl
        rw [hA] at hc1
        obtain ⟨n0, n1, n2, n3, n4⟩ := hcell
        have HT := Lib.hid ht
        clear ht3 ht
        rcases hf : formF t.op with _ | ⟨⟨s0, s1, s2⟩, so⟩
        · have HN : Hid (∀ y, mK T i (j + 1) y = mK T i j y) := no_form (by rw [HK.out]; exact HT.out) hf
          have HF := Lib.hid hf
          clear hf
          go_wp2_with (go_at_call 160; go_must (refine (forms_any t.op _).mono ?_; rintro e w4 ⟨rfl, hb⟩; rw [HF.out]; dsimp only [formV]; obtain ⟨hb4, hz4, q0, q1, q2, q3, q4⟩ := box84 (t := t) hb; clear hb))
          go_roundw
          case rel =>
            have hb5 : Below w3.heap.size w3 (w4.alloc (.cells #[.int .i64 0, .int .i64 0, .int .i64 0, .int .i64 0] 162)) := hb4.trans ((below_alloc _ _).mono hb4.size)
            refine ⟨(k : Int) - 1, j + 1, _, rfl, by have := HKJ.out; omega, by omega, by go_num, ?_, HO3.out.below hb5, HB3.out.trans (hb5.mono HB3.out.size), Nat.le_trans HZ3.out hb5.size⟩
            rw [List.map_congr_left (fun y _ => HN.out y)]; exact HSEEN3.out.below hb5
          case measure => first | (simp [intOf]; done) | (simp [intOf]; omega)
        · have HTH : Hid (∀ y, sI s0 s1 s2 t.a t.b t.c (mK T i j) 3 y = mK T i (j + 1) y) := sI_three (by rw [HK.out]; exact HT.out) hf HM.out
          obtain ⟨fa0, fa1, fa2, -⟩ := fits_args_some (hw.fit k t HT.out) hf
          have harg : ∀ n, n < 3 → sAt s0 s1 s2 n ≠ -1 → ∃ x : Nat, sAt t.a t.b t.c n = (x : Int) ∧ x < i + 1 := fun n hn hs => by
            have key : ∀ (so y : Int), argOk ⟨T.width, T.nodes.take k⟩ so y = true → so ≠ -1 → ∃ x : Nat, y = (x : Int) ∧ x < i + 1 := fun so y ho hs => by
              obtain ⟨x, t', h1, h2, _⟩ := argOk_node ho hs
              have := (List.getElem?_eq_some_iff.1 h2).1
              rw [List.length_take] at this
              exact ⟨x, h1, by omega⟩
            rcases three_cases hn with rfl | rfl | rfl
            · exact key _ _ fa0 hs
            · exact key _ _ fa1 hs
            · exact key _ _ fa2 hs
          have hix : ∀ k : Nat, k < 3 → ∀ w, (Instr.index 82 (.agg #[.int .i64 s0, .int .i64 s1, .int .i64 s2]) (.int .i64 (k : Int))).run Try.prog w = .ok (.int .i64 (sAt s0 s1 s2 k)) w := fun k hk => by
            rcases three_cases hk with rfl | rfl | rfl <;> exact fun w => by kernel_rfl
          have HIX := Lib.hid hix
          have HARG := Lib.hid harg
          have HF := Lib.hid hf
          clear hf harg hix fa0 fa1 fa2
          go_wp2_with (go_at_call 160; go_must (refine (forms_any t.op _).mono ?_; rintro e w4 ⟨rfl, hb⟩; rw [HF.out]; dsimp only [formV]; obtain ⟨hb4, hz4, q0, q1, q2, q3, q4⟩ := box84 (t := t) hb; have HB4B := Lib.hid ((hb.block w3.heap.size (by simp)).trans (heap_alloc_new w3 _)); clear hb))
          have hq : ∀ n : Nat, n < 3 → (w4.alloc (.cells #[.int .i64 s0, .int .i64 s1, .int .i64 s2, .int .i64 so] 162)).cell? ⟨w3.heap.size, 2 + n, none⟩ = some (.int .i64 (sAt t.a t.b t.c n)) := fun n hn => by
            have al : ∀ (q : Addr) (u : Value), w4.cell? q = some u → (w4.alloc (.cells #[.int .i64 s0, .int .i64 s1, .int .i64 s2, .int .i64 so] 162)).cell? q = some u := fun q u h => (World.cell?_alloc_lt w4 _ q (cell_lt h)).trans h
            rcases three_cases hn with rfl | rfl | rfl
            · exact al _ _ q2
            · exact al _ _ q3
            · exact al _ _ q4
          have hb5 : Below w3.heap.size w3 (w4.alloc (.cells #[.int .i64 s0, .int .i64 s1, .int .i64 s2, .int .i64 so] 162)) := hb4.trans ((below_alloc _ _).mono hb4.size)
          obtain ⟨w5, hw5⟩ : ∃ w5 : World, w4.alloc (.cells #[.int .i64 s0, .int .i64 s1, .int .i64 s2, .int .i64 so] 162) = w5 := ⟨_, rfl⟩
          have hbx : (w4.alloc (.cells #[.int .i64 s0, .int .i64 s1, .int .i64 s2, .int .i64 so] 162)).heap[w3.heap.size]? = some (.cells #[.int .i64 t.op, .int .i64 t.v, .int .i64 t.a, .int .i64 t.b, .int .i64 t.c] 84 (0, 0)) :=
            (Below.heap_alloc w4 _ _ hz4).trans HB4B.out
          rw [hw5] at hq hb5 hbx ⊢
          have HQ := Lib.hid hq
          have HB5 := Lib.hid hb5
          have HBX := Lib.hid hbx
          have HS5 := Lib.hid (HSEEN3.out.below hb5)
          have HO5 := Lib.hid (HO3.out.below hb5)
          clear hq hb5 hw5 q0 q1 q2 q3 q4 hb4 hz4 hbx n0 n1 n2 n3 n4 hc1
          go_loopw [11, 12, 53] (fun _ _ u wr => ∃ n : Nat, n ≤ 3 ∧ u = .int .i64 n ∧ OwnB wr S (.slice (some ⟨S, 0, none⟩) (i + 1) (i + 1)) ((List.range (i + 1)).map (sI s0 s1 s2 t.a t.b t.c (mK T i j) n)) ∧ Fr S [4] [] w5 wr) (fun _ _ u _ => 3 - (intOf u).toNat)
          case atStart => exact ⟨0, by omega, rfl, HS5.out, Fr.refl _ _ _ _⟩
          case round =>
            obtain ⟨n, hn, rfl, hseen, hfr⟩ := hrel
            have HSEEN := Lib.hid hseen
            have HFR := Lib.hid hfr
            by_cases hlt : n < 3
            · have hix := HIX.out n hlt
              have hq := (World.cell?_of_block ((hfr.block _ _ HBX.out (fun h => by have := h.2; simp [turns] at this)).trans HBX.out.symm)).trans (HQ.out n hlt)
              have harg := HARG.out n hlt
              have hn3 : (n : Int) < 3 := by omega
              have HNX : Hid (∀ y, sI s0 s1 s2 t.a t.b t.c (mK T i j) (n + 1) y = (sI s0 s1 s2 t.a t.b t.c (mK T i j) n y || (decide (sAt s0 s1 s2 n ≠ -1) && decide (y = (sAt t.a t.b t.c n).toNat)))) := fun y => rfl
              clear hseen hfr
              generalize sAt s0 s1 s2 n = sn at hix harg HNX
              generalize sAt t.a t.b t.c n = xn at hq harg HNX
              by_cases hsn : sn = -1
              · have e1 : (sn != -1) = false := by rw [hsn]; rfl
                have HNY : Hid ((List.range (i + 1)).map (sI s0 s1 s2 t.a t.b t.c (mK T i j) (n + 1)) = (List.range (i + 1)).map (sI s0 s1 s2 t.a t.b t.c (mK T i j) n)) := List.map_congr_left fun y _ => by rw [HNX.out y, hsn]; simp
                clear hsn harg
                go_wp2
                go_roundw
                case rel => exact ⟨n + 1, by omega, by go_num, by rw [HNY.out]; exact HSEEN.out, HFR.out⟩
                case measure => simp [intOf]; omega
              · obtain ⟨x, rfl, hx⟩ := harg hsn
                have e1 : (sn != -1) = true := by rw [bne_iff_ne]; exact hsn
                have hxI : (x : Int) < ((i + 1 : Nat) : Int) := by omega
                obtain ⟨y0, _, hcs⟩ := HSEEN.out.cell (by simp) x hx
                have hfs := HSEEN.out.frozen (by simp) x
                have HNY : Hid ((List.range (i + 1)).map (sI s0 s1 s2 t.a t.b t.c (mK T i j) (n + 1)) = ((List.range (i + 1)).map (sI s0 s1 s2 t.a t.b t.c (mK T i j) n)).set x true) := by
                  show _ = _
                  rw [set_range]
                  exact List.map_congr_left fun y _ => by rw [HNX.out y]; simp [hsn]
                obtain ⟨csS, hcsS⟩ := HSEEN.out.blk
                have HCS := Lib.hid hcsS
                clear hsn hcsS
                go_wp2
                go_roundw
                case rel => exact ⟨n + 1, by omega, by go_num, by rw [HNY.out]; exact HSEEN.out.set (by simp) x true, HFR.out.setCell (p := ⟨S, x, none⟩) HCS.out (by simp) (Nat.le_refl _) _⟩
                case measure => simp [intOf]; omega
            · obtain rfl : n = 3 := by omega
              have h3 := hseen
              rw [List.map_congr_left (fun y _ => HTH.out y)] at h3
              have HSE3 := Lib.hid h3
              clear hseen hfr h3
              go_wp2
              go_roundw
              case rel =>
                refine ⟨(k : Int) - 1, j + 1, _, rfl, by have := HKJ.out; omega, by omega, by go_num, HSE3.out, HO5.out.fr HFR.out (by decide), ?_, ?_⟩
                · have h1 := HFR.out.below (by have := HS2.out; have := HZ3.out; have := HB5.out.size; omega)
                  exact (HB3.out.trans (HB5.out.mono HB3.out.size)).trans (h1.mono (by have := HSE.out; omega))
                · have := HFR.out.size; have := HB5.out.size; have := HZ3.out; omega
              case measure => first | (simp [intOf]; done) | (simp [intOf]; omega)
    · obtain rfl : K = -1 := by omega
      obtain rfl : j = i + 1 := by omega
      have hne : 0 < (outK T i (i + 1)).length := by
        have h1 := congrArg List.length (outK_parts (i := i) hw)
        rw [List.length_reverse, List.length_map] at h1
        rw [h1]
        exact List.length_pos_of_mem (List.mem_filter.2 ⟨List.mem_range.2 (Nat.lt_succ_self i), mF_self hw⟩)
      have hlen : (outK T i (i + 1)).length ≤ i + 1 := by
        have : ∀ j, (outK T i j).length ≤ j := fun j => by
          induction j with
          | zero => simp [outK]
          | succ j ih => rw [outK]; split <;> simp <;> omega
        exact this _
      obtain ⟨G, cg, hv, hG⟩ := hout.form hne
      subst hv
      have HP : Hid ((outK T i (i + 1)).reverse = (partsN T i).map fun k => ((k : Nat) : Int)) := outK_parts hw
      have HOUT := Lib.hid hout
      have HBW := Lib.hid hbw
      have HZ := Lib.hid hz
      obtain ⟨L, hL⟩ : ∃ L, (outK T i (i + 1)).length = L := ⟨_, rfl⟩
      have HL := Lib.hid hL
      rw [hL] at hlen ⊢
      rw [hL] at HOUT
      clear hseen hout hbw hz hK hKj hK1 hne hL
      go_wp2_with (go_at_call 161; go_must (refine (reverse_own HOUT.out HL.out (by omega)).mono ?_; rintro e w6 ⟨rfl, ho6, hg6⟩; have HO6 := Lib.hid ho6; have HG6 := Lib.hid hg6; clear ho6 hg6))
      go_ret
      refine ⟨_, rfl, ?_, HBW.out.grown HG6.out HBW.out.size (fun q hq => ?_)⟩
      · rw [← HP.out]
        have := HO6.out.mono (show w.heap.size ≤ w2.heap.size from HB2.out.size)
        exact this
      · cases hq
        have := HB2.out.size; omega
end
end Go.Proofs.Ytgmcajojigedaaa
