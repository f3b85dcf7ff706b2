/- Tables that are built of terms; the examples that the laws of chapter 22 check first. -/
import Derived.Test.YtgmcajojigedaaaTo
set_option linter.unusedSimpArgs false
set_option linter.unusedVariables false
namespace Go.Proofs.Ytgmcajojigedaaa
open Go.RowKit Go.Maps

theorem find_none {l : List Tm} {t : Tm} (h : l.findIdx? (· == t) = none) : t ∉ l := fun hm => by
  have := List.findIdx?_eq_none_iff.1 h t hm
  simp at this
theorem makeF_width (T : TS) (t : Tm) : (makeF T t).1.width = T.width := by
  unfold makeF
  split
  · split
    · rfl
    · split <;> rfl
  · rfl
theorem makeF_wf {T : TS} (hw : TWf T) (t : Tm) : TWf (makeF T t).1 := by
  unfold makeF
  split
  · rename_i hf
    split
    · exact hw
    · rename_i hn
      split
      · exact hw
      · rename_i hs
        refine ⟨hw.w1, hw.w2, by simp; omega, fun i s hi => ?_, ?_⟩
        · dsimp only at hi ⊢
          by_cases h : i < T.nodes.length
          · rw [List.getElem?_append_left h] at hi
            rw [List.take_append_of_le_length (by omega)]
            exact hw.fit i s hi
          · rw [List.getElem?_append_right (by omega)] at hi
            have hi0 : i - T.nodes.length = 0 := by have := (List.getElem?_eq_some_iff.1 hi).1; simp at this; omega
            rw [hi0] at hi
            simp at hi
            subst hi
            rw [show i = T.nodes.length by omega, List.take_left' rfl]
            exact hf
        · rw [List.nodup_append]
          refine ⟨hw.nodup, by simp, fun a ha b hb => ?_⟩
          simp at hb
          subst hb
          intro e
          subst e
          exact find_none hn ha
  · exact hw
theorem twf_nil {a : Int} (h1 : 2 ≤ a) (h2 : a ≤ 8) : TWf ⟨a, []⟩ := ⟨h1, h2, by simp, fun i t h => by simp at h, by simp⟩
def buildK (a : Int) (l : List Tm) (k : Nat) : TS := (l.take k).foldl (fun T t => (makeF T t).1) ⟨a, []⟩
def buildF (a : Int) (l : List Tm) : TS := l.foldl (fun T t => (makeF T t).1) ⟨a, []⟩
theorem buildK_succ {a : Int} {l : List Tm} {k : Nat} {t : Tm} (h : l[k]? = some t) : buildK a l (k + 1) = (makeF (buildK a l k) t).1 := by
  unfold buildK
  rw [List.take_add_one, h, List.foldl_append]; rfl
theorem foldl_wf (l : List Tm) : ∀ T, TWf T → TWf (l.foldl (fun T t => (makeF T t).1) T) := by
  induction l with
  | nil => exact fun T h => h
  | cons t l ih => exact fun T h => ih _ (makeF_wf h t)
theorem buildK_wf {a : Int} (h1 : 2 ≤ a) (h2 : a ≤ 8) (l : List Tm) (k : Nat) : TWf (buildK a l k) := foldl_wf _ _ (twf_nil h1 h2)
theorem buildF_wf {a : Int} (h1 : 2 ≤ a) (h2 : a ≤ 8) (l : List Tm) : TWf (buildF a l) := foldl_wf _ _ (twf_nil h1 h2)
theorem foldl_width (l : List Tm) : ∀ T, (l.foldl (fun T t => (makeF T t).1) T).width = T.width := by
  induction l with
  | nil => exact fun T => rfl
  | cons t l ih => exact fun T => (ih _).trans (makeF_width T t)
theorem buildF_width (a : Int) (l : List Tm) : (buildF a l).width = a := foldl_width l _

/-- A list of terms lies behind a slice value. -/
def SlT (w : World) (A : Option Addr) (c : Nat) (l : List Tm) : Prop :=
  l.length ≤ c ∧ c ≤ 9223372036854775807 ∧ (0 < l.length → ∃ b o, A = some ⟨b, o, none⟩ ∧ ∀ (k : Nat) (t : Tm), l[k]? = some t →
    w.cell? ⟨b, o + k * 5, none⟩ = some (.int .i64 t.op) ∧ w.cell? ⟨b, o + k * 5 + 1, none⟩ = some (.int .i64 t.v) ∧ w.cell? ⟨b, o + k * 5 + 2, none⟩ = some (.int .i64 t.a) ∧ w.cell? ⟨b, o + k * 5 + 3, none⟩ = some (.int .i64 t.b) ∧ w.cell? ⟨b, o + k * 5 + 4, none⟩ = some (.int .i64 t.c))
theorem SlT.big {w : World} {A : Option Addr} {c : Nat} {l : List Tm} (h : SlT w A c l) : l.length ≤ 9223372036854775807 := Nat.le_trans h.1 h.2.1
theorem SlT.below {w w' : World} {A : Option Addr} {c : Nat} {l : List Tm} (h : SlT w A c l) (hb : Below w.heap.size w w') : SlT w' A c l :=
  ⟨h.1, h.2.1, fun hn => let ⟨b, o, h1, h2⟩ := h.2.2 hn; ⟨b, o, h1, fun k t hk => by
    obtain ⟨a0, a1, a2, a3, a4⟩ := h2 k t hk
    exact ⟨(hb.cell (cell_lt a0)).trans a0, (hb.cell (cell_lt a1)).trans a1, (hb.cell (cell_lt a2)).trans a2, (hb.cell (cell_lt a3)).trans a3, (hb.cell (cell_lt a4)).trans a4⟩⟩⟩
theorem TFr.below {B0 p m c : Nat} {A : Option Addr} {T : TS} {w w' : World} (h : TFr p m A w w') (hb : Tb B0 w p m A c T) (hB : B0 ≤ w.heap.size) : Below B0 w w' := (h.fr hb).below hB

def BuildRet (w : World) (a : Int) (l : List Tm) (e : Ending) (w' : World) : Prop :=
  ∃ p m A c, e = .returned (.pointer (some ⟨p, 0, none⟩)) ∧ Tb w.heap.size w' p m A c (buildF a l) ∧ Below w.heap.size w w'

set_option maxRecDepth 100000 in
set_option maxHeartbeats 2000000 in
theorem build77_yes (a : Int) (l : List Tm) (A : Option Addr) (c : Nat) (w : World) (h1 : 2 ≤ a) (h2 : a ≤ 8) (hs : SlT w A c l) :
    Calls Try.prog 77 #[.int .i64 a, .slice A l.length c] w (BuildRet w a l) := by
  have hbig := hs.big
  have HS := Lib.hid hs
  clear hs
  go_enter Try.func77, Try.ntmps77
  go_wp2_with (go_at_call 86; go_must (refine (tnew_yes a w h1 h2).mono ?_; rintro e w1 ⟨p, m, rfl, ht, hb⟩; have HT := Lib.hid ht; have HB1 := Lib.hid hb; clear ht hb))
  go_loopw [8, 18] (fun _ u wr => ∃ k : Nat, k ≤ l.length ∧ u = .int .i64 k ∧ (∃ A' c', Tb w.heap.size wr p m A' c' (buildK a l k)) ∧ Below w.heap.size w wr) (fun _ u _ => l.length - (intOf u).toNat)
  case atStart => exact ⟨0, Nat.zero_le _, rfl, ⟨none, 0, HT.out⟩, HB1.out⟩
  case round =>
    obtain ⟨k, hk, rfl, ⟨A', c', ht⟩, hb⟩ := hrel
    rename_i wr
    have HTR := Lib.hid ht
    have HBR := Lib.hid hb
    by_cases hlt : k < l.length
    · have hx : l[k]? = some l[k] := List.getElem?_eq_getElem hlt
      obtain ⟨bb, o, hA, hcell⟩ := (HS.out.below hb).2.2 (by omega)
      subst hA
      obtain ⟨t, htk⟩ : ∃ t, l[k] = t := ⟨_, rfl⟩
      rw [htk] at hx
      obtain ⟨n0, n1, n2, n3, n4⟩ := hcell k t hx
      have HN : Hid (buildK a l (k + 1) = (makeF (buildK a l k) t).1) := buildK_succ hx
      have hltI : (k : Int) < (l.length : Int) := by omega
      obtain ⟨op, v, x, y, z⟩ := t
      dsimp only at n0 n1 n2 n3 n4
      clear ht hb hcell hx htk
      go_wp2_with (go_at_call 84; go_must (refine (make_any (B0 := w.heap.size) (by have := HBR.out.size; simp; omega) (HTR.out.below (below_alloc wr (.cells #[.int .i64 op, .int .i64 v, .int .i64 x, .int .i64 y, .int .i64 z] 84))) (buildK_wf h1 h2 l k) ⟨op, v, x, y, z⟩).mono ?_; rintro e w3 ⟨A3, c3, rfl, ht3, hf3, -⟩; have HT3 := Lib.hid ht3; have HB3 : Hid (Below w.heap.size w w3) := (HBR.out.trans ((below_alloc wr _).mono HBR.out.size)).trans (hf3.below (HTR.out.below (below_alloc wr (.cells #[.int .i64 op, .int .i64 v, .int .i64 x, .int .i64 y, .int .i64 z] 84))) (by have := HBR.out.size; simp; omega)); clear ht3 hf3))
      go_roundw
      case rel => exact ⟨k + 1, by omega, by go_num, ⟨A3, c3, by rw [HN.out]; exact HT3.out⟩, HB3.out⟩
      case measure => simp [intOf]; omega
    · obtain rfl : k = l.length := by omega
      have HE : Hid (buildK a l l.length = buildF a l) := by show _ = _; unfold buildK; rw [List.take_length]; rfl
      go_wp2
      go_ret
      exact ⟨p, m, A', c', rfl, by rw [← HE.out]; exact HTR.out, HBR.out⟩
theorem build77_no (a : Int) (v : Value) (w : World) (h : a < 2 ∨ 8 < a) :
    Calls Try.prog 77 #[.int .i64 a, v] w fun e w' => e = .returned (.pointer none) ∧ w = w' := by
  go_enter Try.func77, Try.ntmps77
  go_wp2_with (go_at_call 86; go_must (refine (tnew_no a w h).mono ?_; rintro e w1 ⟨rfl, rfl⟩))
  go_ret
  exact ⟨rfl, rfl⟩

set_option maxRecDepth 100000 in
set_option maxHeartbeats 2000000 in
theorem build52_yes (a : Int) (l : List Tm) (A : Option Addr) (c : Nat) (w : World) (h1 : 2 ≤ a) (h2 : a ≤ 8) (hs : SlT w A c l) :
    Calls Try.prog 52 #[.int .i64 a, .slice A l.length c] w (BuildRet w a l) := by
  have hbig := hs.big
  have HS := Lib.hid hs
  clear hs
  go_enter Try.func52, Try.ntmps52
  go_wp2_with (go_at_call 86; go_must (refine (tnew_yes a w h1 h2).mono ?_; rintro e w1 ⟨p, m, rfl, ht, hb⟩; have HT := Lib.hid ht; have HB1 := Lib.hid hb; clear ht hb))
  go_loopw [8, 18] (fun _ u wr => ∃ k : Nat, k ≤ l.length ∧ u = .int .i64 k ∧ (∃ A' c', Tb w.heap.size wr p m A' c' (buildK a l k)) ∧ Below w.heap.size w wr) (fun _ u _ => l.length - (intOf u).toNat)
  case atStart => exact ⟨0, Nat.zero_le _, rfl, ⟨none, 0, HT.out⟩, HB1.out⟩
  case round =>
    obtain ⟨k, hk, rfl, ⟨A', c', ht⟩, hb⟩ := hrel
    rename_i wr
    have HTR := Lib.hid ht
    have HBR := Lib.hid hb
    by_cases hlt : k < l.length
    · have hx : l[k]? = some l[k] := List.getElem?_eq_getElem hlt
      obtain ⟨bb, o, hA, hcell⟩ := (HS.out.below hb).2.2 (by omega)
      subst hA
      obtain ⟨t, htk⟩ : ∃ t, l[k] = t := ⟨_, rfl⟩
      rw [htk] at hx
      obtain ⟨n0, n1, n2, n3, n4⟩ := hcell k t hx
      have HN : Hid (buildK a l (k + 1) = (makeF (buildK a l k) t).1) := buildK_succ hx
      have hltI : (k : Int) < (l.length : Int) := by omega
      obtain ⟨op, v, x, y, z⟩ := t
      dsimp only at n0 n1 n2 n3 n4
      clear ht hb hcell hx htk
      go_wp2_with (go_at_call 84; go_must (refine (make_any (B0 := w.heap.size) (by have := HBR.out.size; simp; omega) (HTR.out.below (below_alloc wr (.cells #[.int .i64 op, .int .i64 v, .int .i64 x, .int .i64 y, .int .i64 z] 84))) (buildK_wf h1 h2 l k) ⟨op, v, x, y, z⟩).mono ?_; rintro e w3 ⟨A3, c3, rfl, ht3, hf3, -⟩; have HT3 := Lib.hid ht3; have HB3 : Hid (Below w.heap.size w w3) := (HBR.out.trans ((below_alloc wr _).mono HBR.out.size)).trans (hf3.below (HTR.out.below (below_alloc wr (.cells #[.int .i64 op, .int .i64 v, .int .i64 x, .int .i64 y, .int .i64 z] 84))) (by have := HBR.out.size; simp; omega)); clear ht3 hf3))
      go_roundw
      case rel => exact ⟨k + 1, by omega, by go_num, ⟨A3, c3, by rw [HN.out]; exact HT3.out⟩, HB3.out⟩
      case measure => simp [intOf]; omega
    · obtain rfl : k = l.length := by omega
      have HE : Hid (buildK a l l.length = buildF a l) := by show _ = _; unfold buildK; rw [List.take_length]; rfl
      go_wp2
      go_ret
      exact ⟨p, m, A', c', rfl, by rw [← HE.out]; exact HTR.out, HBR.out⟩
theorem build52_no (a : Int) (v : Value) (w : World) (h : a < 2 ∨ 8 < a) :
    Calls Try.prog 52 #[.int .i64 a, v] w fun e w' => e = .returned (.pointer none) ∧ w = w' := by
  go_enter Try.func52, Try.ntmps52
  go_wp2_with (go_at_call 86; go_must (refine (tnew_no a w h).mono ?_; rintro e w1 ⟨rfl, rfl⟩))
  go_ret
  exact ⟨rfl, rfl⟩

set_option maxRecDepth 100000 in
set_option maxHeartbeats 2000000 in
theorem build67_yes (a : Int) (l : List Tm) (A : Option Addr) (c : Nat) (w : World) (h1 : 2 ≤ a) (h2 : a ≤ 8) (hs : SlT w A c l) :
    Calls Try.prog 67 #[.int .i64 a, .slice A l.length c] w (BuildRet w a l) := by
  have hbig := hs.big
  have HS := Lib.hid hs
  clear hs
  go_enter Try.func67, Try.ntmps67
  go_wp2_with (go_at_call 86; go_must (refine (tnew_yes a w h1 h2).mono ?_; rintro e w1 ⟨p, m, rfl, ht, hb⟩; have HT := Lib.hid ht; have HB1 := Lib.hid hb; clear ht hb))
  go_loopw [8, 18] (fun _ u wr => ∃ k : Nat, k ≤ l.length ∧ u = .int .i64 k ∧ (∃ A' c', Tb w.heap.size wr p m A' c' (buildK a l k)) ∧ Below w.heap.size w wr) (fun _ u _ => l.length - (intOf u).toNat)
  case atStart => exact ⟨0, Nat.zero_le _, rfl, ⟨none, 0, HT.out⟩, HB1.out⟩
  case round =>
    obtain ⟨k, hk, rfl, ⟨A', c', ht⟩, hb⟩ := hrel
    rename_i wr
    have HTR := Lib.hid ht
    have HBR := Lib.hid hb
    by_cases hlt : k < l.length
    · have hx : l[k]? = some l[k] := List.getElem?_eq_getElem hlt
      obtain ⟨bb, o, hA, hcell⟩ := (HS.out.below hb).2.2 (by omega)
      subst hA
      obtain ⟨t, htk⟩ : ∃ t, l[k] = t := ⟨_, rfl⟩
      rw [htk] at hx
      obtain ⟨n0, n1, n2, n3, n4⟩ := hcell k t hx
      have HN : Hid (buildK a l (k + 1) = (makeF (buildK a l k) t).1) := buildK_succ hx
      have hltI : (k : Int) < (l.length : Int) := by omega
      obtain ⟨op, v, x, y, z⟩ := t
      dsimp only at n0 n1 n2 n3 n4
      clear ht hb hcell hx htk
      go_wp2_with (go_at_call 84; go_must (refine (make_any (B0 := w.heap.size) (by have := HBR.out.size; simp; omega) (HTR.out.below (below_alloc wr (.cells #[.int .i64 op, .int .i64 v, .int .i64 x, .int .i64 y, .int .i64 z] 84))) (buildK_wf h1 h2 l k) ⟨op, v, x, y, z⟩).mono ?_; rintro e w3 ⟨A3, c3, rfl, ht3, hf3, -⟩; have HT3 := Lib.hid ht3; have HB3 : Hid (Below w.heap.size w w3) := (HBR.out.trans ((below_alloc wr _).mono HBR.out.size)).trans (hf3.below (HTR.out.below (below_alloc wr (.cells #[.int .i64 op, .int .i64 v, .int .i64 x, .int .i64 y, .int .i64 z] 84))) (by have := HBR.out.size; simp; omega)); clear ht3 hf3))
      go_roundw
      case rel => exact ⟨k + 1, by omega, by go_num, ⟨A3, c3, by rw [HN.out]; exact HT3.out⟩, HB3.out⟩
      case measure => simp [intOf]; omega
    · obtain rfl : k = l.length := by omega
      have HE : Hid (buildK a l l.length = buildF a l) := by show _ = _; unfold buildK; rw [List.take_length]; rfl
      go_wp2
      go_ret
      exact ⟨p, m, A', c', rfl, by rw [← HE.out]; exact HTR.out, HBR.out⟩
theorem build67_no (a : Int) (v : Value) (w : World) (h : a < 2 ∨ 8 < a) :
    Calls Try.prog 67 #[.int .i64 a, v] w fun e w' => e = .returned (.pointer none) ∧ w = w' := by
  go_enter Try.func67, Try.ntmps67
  go_wp2_with (go_at_call 86; go_must (refine (tnew_no a w h).mono ?_; rintro e w1 ⟨rfl, rfl⟩))
  go_ret
  exact ⟨rfl, rfl⟩

/-! ### The examples -/
def aw0 : Tm := ⟨0, 0, 0, 0, 0⟩
def aw1 : Tm := ⟨2, 1, 0, 0, 0⟩
def aw2 : Tm := ⟨5, 0, 0, 1, 0⟩
def awT : TS := ⟨3, [aw0, aw1, aw2]⟩
theorem aw_m0 : makeF ⟨3, []⟩ aw0 = (⟨3, [aw0]⟩, 0, 0) := by rfl
theorem aw_m1 : makeF ⟨3, [aw0]⟩ aw1 = (⟨3, [aw0, aw1]⟩, 1, 0) := by rfl
theorem aw_m2 : makeF ⟨3, [aw0, aw1]⟩ aw2 = (awT, 2, 0) := by rfl
theorem aw_wf0 : TWf ⟨3, [aw0]⟩ := by have := makeF_wf (twf_nil (a := 3) (by omega) (by omega)) aw0; rwa [aw_m0] at this
theorem aw_wf1 : TWf ⟨3, [aw0, aw1]⟩ := by have := makeF_wf aw_wf0 aw1; rwa [aw_m1] at this
theorem aw_wf : TWf awT := by have := makeF_wf aw_wf1 aw2; rwa [aw_m2] at this
theorem aw_ev : evalF awT [3] 2 = (-4, 0) := by decide
theorem aw_parts : partsN awT 2 = [0, 1, 2] := by decide
theorem aw_inp : inputsF awT (partsN awT 2) = [0] := by
  refine sorted_unique (inputsF_sorted _ _) (by simp) fun x => ?_
  rw [inputsF_mem, aw_parts]
  simp only [List.mem_cons, List.not_mem_nil, or_false, exists_eq_or_imp, exists_eq_left]
  have i0 : isInp awT 0 = some 0 := by decide
  have i1 : isInp awT 1 = none := by decide
  have i2 : isInp awT 2 = none := by decide
  rw [i0, i1, i2]
  simp
  exact eq_comm
theorem aw_div : quoW 3 (-4) (-1) = -4 := by decide
theorem aw_rem : remW 3 (-4) (-1) = 0 := by decide
theorem aw_wrap : wrapW 3 5 = -3 := by decide
set_option maxRecDepth 100000 in
set_option maxHeartbeats 4000000 in
theorem awake22 (w : World) : Calls Try.prog 76 #[] w fun e w' => e = .returned (.bool true) ∧ Below w.heap.size w w' := by
  have hs : sortF aw2.op = 0 := rfl
  have HS := Lib.hid hs
  clear hs
  go_enter Try.func76, Try.ntmps76
  go_wp2_with (first
    | (go_at_call 86; go_must (refine (tnew_yes 3 w (by omega) (by omega)).mono ?_; rintro e w1 ⟨p, m, rfl, ht, hb⟩; have HT1 := Lib.hid ht; have HB1 := Lib.hid hb; clear ht hb))
    | (go_at_call 84; have _t := HT3; go_must (refine (make_any (B0 := w.heap.size) (HB3.out.size) HT3.out aw_wf1 aw2).mono ?_; rw [aw_m2]; rintro e w4 ⟨A4, c4, rfl, ht, hf, -⟩; have HT4 := Lib.hid ht; have HB4 : Hid (Below w.heap.size w w4) := HB3.out.trans (hf.below HT3.out HB3.out.size); clear ht hf))
    | (go_at_call 84; have _t := HT2; go_must (refine (make_any (B0 := w.heap.size) (HB2.out.size) HT2.out aw_wf0 aw1).mono ?_; rw [aw_m1]; rintro e w3 ⟨A3, c3, rfl, ht, hf, -⟩; have HT3 := Lib.hid ht; have HB3 : Hid (Below w.heap.size w w3) := HB2.out.trans (hf.below HT2.out HB2.out.size); clear ht hf))
    | (go_at_call 84; go_must (refine (make_any (B0 := w.heap.size) (HB1.out.size) HT1.out (twf_nil (by omega) (by omega)) aw0).mono ?_; rw [aw_m0]; rintro e w2 ⟨A2, c2, rfl, ht, hf, -⟩; have HT2 := Lib.hid ht; have HB2 : Hid (Below w.heap.size w w2) := HB1.out.trans (hf.below HT1.out HB1.out.size); clear ht hf))
    | (go_at_call 58; go_must (refine (eval_any (inp := [3]) (HT4.out.below (below_alloc w4 (.cells #[.int .i64 3] 3))) aw_wf (sl_new (Value.int .i64) 3 w4 _ [3] (by simp)) 2).mono ?_; rw [aw_ev]; rintro e w5 ⟨rfl, hb⟩; have hb' := below_of1 hb; have HT5 := Lib.hid (HT4.out.below hb'); have HB5 : Hid (Below w.heap.size w w5) := HB4.out.trans (hb'.mono HB4.out.size); clear hb hb'))
    | (go_at_call 48; go_must (refine (bdiv_v aw_div aw_rem _).mono ?_; rintro e w' ⟨rfl, rfl⟩))
    | (go_at_call 60; go_must (refine (tsort_yes HT5.out (k := 2) (t := aw2) rfl).mono ?_; rw [HS.out]; rintro e w6 ⟨rfl, hb⟩; have HT6 := Lib.hid (HT5.out.below hb); have HB6 : Hid (Below w.heap.size w w6) := HB5.out.trans (hb.mono HB5.out.size); clear hb))
    | (go_at_call 25; go_must (refine (wrap_v aw_wrap _).mono ?_; rintro e w' ⟨rfl, rfl⟩))
    | (go_at_call 57; go_must (refine (tlen_any HT6.out).mono ?_; rintro e w' ⟨rfl, rfl⟩))
    | (go_at_call 87; go_must (refine (twidth_any HT6.out).mono ?_; rintro e w' ⟨rfl, rfl⟩))
    | (go_at_call 59; go_must (refine (size_yes HT6.out aw_wf (i := 2) (t0 := aw2) rfl).mono ?_; rw [aw_parts]; rintro e w7 ⟨rfl, hb⟩; have HT7 := Lib.hid (HT6.out.below hb); have HB7 : Hid (Below w.heap.size w w7) := HB6.out.trans (hb.mono HB6.out.size); clear hb))
    | (go_at_call 61; go_must (refine (inputs_yes HT7.out aw_wf (i := 2) (t0 := aw2) rfl).mono ?_; rw [aw_inp]; rintro e w8 ⟨v8, rfl, ho, hb⟩; obtain ⟨A8, c8, rfl, -⟩ := ho.sl 0; have HB8 : Hid (Below w.heap.size w w8) := HB7.out.trans (hb.mono HB7.out.size); clear hb ho)))
  go_ret
  exact ⟨rfl, HB8.out⟩
end Go.Proofs.Ytgmcajojigedaaa
