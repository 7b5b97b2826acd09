/- Layer 8, plain: kinds of cells, shapes that last while contents turn. -/
import Derived.Test.YtcmgdieeclninaaD27
set_option linter.unusedVariables false
set_option linter.unusedSimpArgs false
namespace Go.Proofs.Ytcmgdieeclninaa
open Go.RowKit Go.Proofs.YtcmgdieeclninaaW.PrintWords Go.Proofs.YtcmgdieeclninaaW.PrintLast
/-- A value's kind: what stays when its content turns. -/
def tag : Value → Value
  | .string _ => .string ⟨#[]⟩
  | .int k _ => .int k 0
  | .bool _ => .bool false
  | v => v
theorem tag_string {v : Value} {s : ByteArray} (h : tag v = tag (.string s)) : ∃ s', v = .string s' := by cases v <;> simp_all [tag]
theorem tag_int {v : Value} {k : IntKind} {n : Int} (h : tag v = tag (.int k n)) : ∃ n', v = .int k n' := by cases v <;> simp_all [tag]
theorem tag_bool {v : Value} {b : Bool} (h : tag v = tag (.bool b)) : ∃ b', v = .bool b' := by cases v <;> simp_all [tag]
theorem tag_slice {v : Value} {A : Option Addr} {n c : Nat} (h : tag v = tag (.slice A n c)) : v = .slice A n c := by cases v <;> simp_all [tag]
/-- There is a cell of a kind. -/
def Has (w : World) (g i : Nat) (t : Value) : Prop := ∃ (cs : Array Value) (e : TypeId) (old : Value), w.heap[g]? = some (Obj.cells cs e (0, 0)) ∧ cs[i]? = some old ∧ tag old = t
theorem Has.cell {w : World} {g i : Nat} {t : Value} (h : Has w g i t) : ∃ v, w.cell? ⟨g, i, none⟩ = some v ∧ tag v = t := by
  obtain ⟨cs, e, old, h1, h2, h3⟩ := h
  exact ⟨old, (blk_cell h1 i).trans h2, h3⟩
theorem Has.slice {w : World} {g i : Nat} {A : Option Addr} {n c : Nat} (h : Has w g i (tag (.slice A n c))) : w.cell? ⟨g, i, none⟩ = some (.slice A n c) := by
  obtain ⟨v, h1, h2⟩ := h.cell
  rw [h1, tag_slice h2]
theorem Has.string {w : World} {g i : Nat} {s : ByteArray} (h : Has w g i (tag (.string s))) : ∃ s', w.cell? ⟨g, i, none⟩ = some (.string s') := by
  obtain ⟨v, h1, h2⟩ := h.cell
  obtain ⟨s', rfl⟩ := tag_string h2
  exact ⟨s', h1⟩
theorem Has.int {w : World} {g i : Nat} {k : IntKind} {n : Int} (h : Has w g i (tag (.int k n))) : ∃ n', w.cell? ⟨g, i, none⟩ = some (.int k n') := by
  obtain ⟨v, h1, h2⟩ := h.cell
  obtain ⟨s', rfl⟩ := tag_int h2
  exact ⟨s', h1⟩
theorem Has.bool {w : World} {g i : Nat} {b : Bool} (h : Has w g i (tag (.bool b))) : ∃ b', w.cell? ⟨g, i, none⟩ = some (.bool b') := by
  obtain ⟨v, h1, h2⟩ := h.cell
  obtain ⟨s', rfl⟩ := tag_bool h2
  exact ⟨s', h1⟩
theorem Has.frozen {w : World} {g i : Nat} {t : Value} (h : Has w g i t) : w.frozen? ⟨g, i, none⟩ = false := by
  obtain ⟨cs, e, old, h1, h2, h3⟩ := h
  exact blk_frozen h1 i
theorem Has.lt {w : World} {g i : Nat} {t : Value} (h : Has w g i t) : g < w.heap.size := by
  obtain ⟨cs, e, old, h1, h2, h3⟩ := h
  exact blk_lt h1
/-- Every cell keeps its kind, and blocks that are not ok stay as they are. -/
structure Kin (w w' : World) (ok : Nat → Prop) : Prop where
  os : w'.os = w.os
  tape : w'.tape = w.tape
  output : w'.output = w.output
  size : w.heap.size ≤ w'.heap.size
  block : ∀ i, i < w.heap.size → ¬ ok i → w'.heap[i]? = w.heap[i]?
  kin : ∀ (g : Nat) (cs : Array Value) (e : TypeId), w.heap[g]? = some (Obj.cells cs e (0, 0)) → ∃ cs' : Array Value, w'.heap[g]? = some (Obj.cells cs' e (0, 0)) ∧ ∀ (i : Nat) (v : Value), cs[i]? = some v → ∃ v' : Value, cs'[i]? = some v' ∧ tag v' = tag v
theorem Kin.refl (w : World) (ok : Nat → Prop) : Kin w w ok := ⟨rfl, rfl, rfl, Nat.le_refl _, fun _ _ _ => rfl, fun g cs e h => ⟨cs, h, fun i v hv => ⟨v, hv, rfl⟩⟩⟩
theorem Kin.has {w w' : World} {ok : Nat → Prop} (k : Kin w w' ok) {g i : Nat} {t : Value} (h : Has w g i t) : Has w' g i t := by
  obtain ⟨cs, e, old, h1, h2, h3⟩ := h
  obtain ⟨cs', h4, h5⟩ := k.kin g cs e h1
  obtain ⟨v', h6, h7⟩ := h5 i old h2
  exact ⟨cs', e, v', h4, h6, h7.trans h3⟩
theorem Kin.below {w0 w w' : World} {ok : Nat → Prop} (k : Kin w0 w ok) (hb : Below w.heap.size w w') : Kin w0 w' ok :=
  ⟨hb.os.trans k.os, hb.tape.trans k.tape, hb.output.trans k.output, Nat.le_trans k.size hb.size, fun i hi hn => (hb.block i (Nat.lt_of_lt_of_le hi k.size)).trans (k.block i hi hn), fun g cs e h => by
    obtain ⟨cs', h1, h2⟩ := k.kin g cs e h
    exact ⟨cs', blk_below h1 hb, h2⟩⟩
theorem Kin.set {w0 w : World} {ok : Nat → Prop} (k : Kin w0 w ok) {g i : Nat} {v : Value} (h : Has w0 g i (tag v)) (hg : ok g) : Kin w0 (w.setCell ⟨g, i, none⟩ v) ok := by
  obtain ⟨cs, e, old, h1, h2, h3⟩ := k.has h
  refine ⟨k.os, k.tape, k.output, by rw [setCell_size]; exact k.size, fun j hj hn => (Below.heap_setCell w ⟨g, i, none⟩ v j (fun he => hn (by have e2 : j = g := he; rw [e2]; exact hg))).trans (k.block j hj hn), fun q cq eq hq => ?_⟩
  obtain ⟨cs', h4, h5⟩ := k.kin q cq eq hq
  by_cases hqg : q = g
  · subst hqg
    rw [h1] at h4
    injection h4 with h4
    injection h4 with h4 h6 h7
    subst h4 h6
    refine ⟨cs.setIfInBounds i v, blk_set h1 i v, fun j u hu => ?_⟩
    obtain ⟨u', h8, h9⟩ := h5 j u hu
    by_cases hji : i = j
    · subst hji
      rw [h2] at h8
      injection h8 with h8
      subst h8
      exact ⟨v, by rw [Array.getElem?_setIfInBounds, if_pos rfl, if_pos (Array.getElem?_eq_some_iff.1 h2).1], by rw [← h3, h9]⟩
    · exact ⟨u', by rw [Array.getElem?_setIfInBounds_ne hji]; exact h8, h9⟩
  · exact ⟨cs', (Below.heap_setCell w ⟨g, i, none⟩ v q hqg).trans h4, h5⟩
theorem Kin.blk {w0 w w' : World} {ok : Nat → Prop} {g : Nat} {o : Obj} (h : w.heap[g]? = some o) (k : Kin w w' ok) (hg : ¬ ok g) : w'.heap[g]? = some o := (k.block g (blk_lt h) hg).trans h
/-! ### shapes -/
def ShRow (w : World) (ok : Nat → Prop) (el : Nat → Nat → Prop) (v : Value) : Prop := ∃ A n c, v = .slice A n c ∧ n ≤ 9223372036854775807 ∧ (0 < n → ∃ g, A = some ⟨g, 0, none⟩ ∧ ok g ∧ ∀ j, j < n → el g j)
def ShInt (w : World) (ok : Nat → Prop) (v : Value) : Prop := ShRow w ok (fun g j => Has w g j (tag (.int .i64 0))) v
def ShStr (w : World) (ok : Nat → Prop) (v : Value) : Prop := ShRow w ok (fun g j => Has w g j (tag (.string ⟨#[]⟩))) v
def ShCol (w : World) (ok : Nat → Prop) (v : Value) : Prop := ShRow w ok (fun g j => Has w g (j * 3) (tag (.string ⟨#[]⟩)) ∧ Has w g (j * 3 + 1) (tag (.int .i64 0)) ∧ Has w g (j * 3 + 2) (tag (.bool false))) v
def ShPrm (w : World) (ok : Nat → Prop) (v : Value) : Prop := ShRow w ok (fun g j => Has w g (j * 2) (tag (.string ⟨#[]⟩)) ∧ Has w g (j * 2 + 1) (tag (.int .i64 0))) v
def ShIdx (w : World) (ok : Nat → Prop) (v : Value) : Prop := ShRow w ok (fun g j => Has w g (j * 3) (tag (.string ⟨#[]⟩)) ∧ ∃ u, Has w g (j * 3 + 1) (tag u) ∧ ShInt w ok u) v
def ShTab (w : World) (ok : Nat → Prop) (v : Value) : Prop := ShRow w ok (fun g j => Has w g (j * 5) (tag (.string ⟨#[]⟩)) ∧ Has w g (j * 5 + 3) (tag (.int .i64 0)) ∧ ∃ u1 u2 u3, Has w g (j * 5 + 1) (tag u1) ∧ ShCol w ok u1 ∧ Has w g (j * 5 + 2) (tag u2) ∧ ShInt w ok u2 ∧ Has w g (j * 5 + 4) (tag u3) ∧ ShIdx w ok u3) v
def ShPrc (w : World) (ok : Nat → Prop) (v : Value) : Prop := ShRow w ok (fun g j => Has w g (j * 5) (tag (.string ⟨#[]⟩)) ∧ Has w g (j * 5 + 3) (tag (.int .i64 0)) ∧ Has w g (j * 5 + 4) (tag (.int .i64 0)) ∧ ∃ u1 u2, Has w g (j * 5 + 1) (tag u1) ∧ ShPrm w ok u1 ∧ Has w g (j * 5 + 2) (tag u2) ∧ ShStr w ok u2) v
theorem ShRow.imp {w w' : World} {ok : Nat → Prop} {el el' : Nat → Nat → Prop} {v : Value} (h : ShRow w ok el v) (hi : ∀ g j, el g j → el' g j) : ShRow w' ok el' v := by
  obtain ⟨A, n, c, rfl, hn, hr⟩ := h
  exact ⟨A, n, c, rfl, hn, fun hp => by obtain ⟨g, h1, h2, h3⟩ := hr hp; exact ⟨g, h1, h2, fun j hj => hi g j (h3 j hj)⟩⟩
theorem ShInt.kin {w w' : World} {ok ok' : Nat → Prop} {v : Value} (h : ShInt w ok v) (k : Kin w w' ok') : ShInt w' ok v := ShRow.imp h (fun _ _ h => k.has h)
theorem ShStr.kin {w w' : World} {ok ok' : Nat → Prop} {v : Value} (h : ShStr w ok v) (k : Kin w w' ok') : ShStr w' ok v := ShRow.imp h (fun _ _ h => k.has h)
theorem ShCol.kin {w w' : World} {ok ok' : Nat → Prop} {v : Value} (h : ShCol w ok v) (k : Kin w w' ok') : ShCol w' ok v := ShRow.imp h (fun _ _ h => ⟨k.has h.1, k.has h.2.1, k.has h.2.2⟩)
theorem ShPrm.kin {w w' : World} {ok ok' : Nat → Prop} {v : Value} (h : ShPrm w ok v) (k : Kin w w' ok') : ShPrm w' ok v := ShRow.imp h (fun _ _ h => ⟨k.has h.1, k.has h.2⟩)
theorem ShIdx.kin {w w' : World} {ok ok' : Nat → Prop} {v : Value} (h : ShIdx w ok v) (k : Kin w w' ok') : ShIdx w' ok v := ShRow.imp h (fun _ _ h => ⟨k.has h.1, by obtain ⟨u, h1, h2⟩ := h.2; exact ⟨u, k.has h1, h2.kin k⟩⟩)
theorem ShTab.kin {w w' : World} {ok ok' : Nat → Prop} {v : Value} (h : ShTab w ok v) (k : Kin w w' ok') : ShTab w' ok v := ShRow.imp h (fun _ _ h => ⟨k.has h.1, k.has h.2.1, by obtain ⟨u1, u2, u3, h1, h2, h3, h4, h5, h6⟩ := h.2.2; exact ⟨u1, u2, u3, k.has h1, h2.kin k, k.has h3, h4.kin k, k.has h5, h6.kin k⟩⟩)
theorem ShPrc.kin {w w' : World} {ok ok' : Nat → Prop} {v : Value} (h : ShPrc w ok v) (k : Kin w w' ok') : ShPrc w' ok v := ShRow.imp h (fun _ _ h => ⟨k.has h.1, k.has h.2.1, k.has h.2.2.1, by obtain ⟨u1, u2, h1, h2, h3, h4⟩ := h.2.2.2; exact ⟨u1, u2, k.has h1, h2.kin k, k.has h3, h4.kin k⟩⟩)
/-! ### what is owned has its shape -/
theorem sh_of_R {α : Type} {d : Kd α} {e base : Nat} {w : World} {ok : Nat → Prop} {v : Value} {xs : List α} {el : Nat → Nat → Prop} (h : d.R e w base ok v xs)
    (hel : ∀ (g : Nat) (cur : Array Value) (j : Nat) (x : α) (cs : List Value), w.heap[g]? = some (.cells cur e (0, 0)) → d.M w base (fun k => ok k ∧ some k ≠ v.ownBlock) x cs → (∀ i u, cs[i]? = some u → i < d.sz → cur[j * d.sz + i]? = some u) → el g j) : ShRow w ok el v := by
  obtain ⟨hok, inner, hown, hr⟩ := h
  rcases hown.2 with ⟨rfl, hx0⟩ | ⟨g, cap, cur, rfl, hb, hh, hnc2, hcm, hcs, htake⟩
  · exact ⟨none, 0, 0, rfl, by omega, fun h => by omega⟩
  · refine ⟨_, _, _, rfl, Nat.le_trans hnc2 (by simpa [maxLen] using hcm), fun hp => ⟨g, rfl, hok g (by simp [Value.ownBlock]), fun j hj => ?_⟩⟩
    refine hel g cur j _ _ hh (hr.2 j _ (List.getElem?_eq_getElem hj)) (fun i u hu hi => ?_)
    rw [List.getElem?_take, if_pos hi, List.getElem?_drop, ← htake, List.getElem?_take] at hu
    rw [← Array.getElem?_toList]
    split at hu
    · exact hu
    · cases hu
theorem shInt_of {w : World} {base : Nat} {ok : Nat → Prop} {v : Value} {xs : List Int} (h : (Kd.int .i64).R 3 w base ok v xs) : ShInt w ok v :=
  sh_of_R h (fun g cur j x cs hh hM hc => ⟨cur, 3, .int .i64 x, hh, by have h1 : cs = [.int .i64 x] := hM; subst h1; simpa [Kd.int, Kd.scalar] using hc 0 _ rfl (by decide), rfl⟩)
theorem shStr_of {w : World} {base : Nat} {ok : Nat → Prop} {v : Value} {xs : List ByteArray} (h : Kd.string.R 9 w base ok v xs) : ShStr w ok v :=
  sh_of_R h (fun g cur j x cs hh hM hc => ⟨cur, 9, .string x, hh, by have h1 : cs = [.string x] := hM; subst h1; simpa [Kd.string, Kd.scalar] using hc 0 _ rfl (by decide), rfl⟩)
theorem shCol_of {w : World} {base : Nat} {ok : Nat → Prop} {v : Value} {xs : List Col} (h : kCol.R 62 w base ok v xs) : ShCol w ok v :=
  sh_of_R h (fun g cur j x cs hh hM hc => by
    rw [kCol_M] at hM
    subst hM
    exact ⟨⟨cur, 62, _, hh, hc 0 _ rfl (by decide), rfl⟩, ⟨cur, 62, _, hh, hc 1 _ rfl (by decide), rfl⟩, ⟨cur, 62, _, hh, hc 2 _ rfl (by decide), rfl⟩⟩)
theorem shPrm_of {w : World} {base : Nat} {ok : Nat → Prop} {v : Value} {xs : List Prm} (h : kPrm.R 66 w base ok v xs) : ShPrm w ok v :=
  sh_of_R h (fun g cur j x cs hh hM hc => by
    rw [kPrm_M] at hM
    subst hM
    exact ⟨⟨cur, 66, _, hh, hc 0 _ rfl (by decide), rfl⟩, ⟨cur, 66, _, hh, hc 1 _ rfl (by decide), rfl⟩⟩)
theorem shIdx_of {w : World} {base : Nat} {ok : Nat → Prop} {v : Value} {xs : List Idx} (h : kIdx.R 64 w base ok v xs) : ShIdx w ok v :=
  sh_of_R h (fun g cur j x cs hh hM hc => by
    rw [kIdx_M] at hM
    obtain ⟨u, rfl, hR⟩ := hM
    exact ⟨⟨cur, 64, _, hh, hc 0 _ rfl (by decide), rfl⟩, u, ⟨cur, 64, _, hh, hc 1 _ rfl (by decide), rfl⟩, shInt_of (Kd.R_mono hR (fun _ h => h.1))⟩)
theorem shTab_of {w : World} {base : Nat} {ok : Nat → Prop} {v : Value} {xs : List Tab} (h : kTab.R 30 w base ok v xs) : ShTab w ok v :=
  sh_of_R h (fun g cur j x cs hh hM hc => by
    rw [kTab_M] at hM
    obtain ⟨u1, u2, u3, rfl, h1, h2, h3⟩ := hM
    exact ⟨⟨cur, 30, _, hh, hc 0 _ rfl (by decide), rfl⟩, ⟨cur, 30, _, hh, hc 3 _ rfl (by decide), rfl⟩, u1, u2, u3, ⟨cur, 30, _, hh, hc 1 _ rfl (by decide), rfl⟩, shCol_of (Kd.R_mono h1 (fun _ h => h.1)), ⟨cur, 30, _, hh, hc 2 _ rfl (by decide), rfl⟩, shInt_of (Kd.R_mono h2 (fun _ h => h.1)), ⟨cur, 30, _, hh, hc 4 _ rfl (by decide), rfl⟩, shIdx_of (Kd.R_mono h3 (fun _ h => h.1))⟩)
theorem shPrc_of {w : World} {base : Nat} {ok : Nat → Prop} {v : Value} {xs : List Prc} (h : kPrc.R 34 w base ok v xs) : ShPrc w ok v :=
  sh_of_R h (fun g cur j x cs hh hM hc => by
    rw [kPrc_M] at hM
    obtain ⟨u1, u2, rfl, h1, h2⟩ := hM
    exact ⟨⟨cur, 34, _, hh, hc 0 _ rfl (by decide), rfl⟩, ⟨cur, 34, _, hh, hc 3 _ rfl (by decide), rfl⟩, ⟨cur, 34, _, hh, hc 4 _ rfl (by decide), rfl⟩, u1, u2, ⟨cur, 34, _, hh, hc 1 _ rfl (by decide), rfl⟩, shPrm_of (Kd.R_mono h1 (fun _ h => h.1)), ⟨cur, 34, _, hh, hc 2 _ rfl (by decide), rfl⟩, shStr_of (Kd.R_mono h2 (fun _ h => h.1))⟩)
end Go.Proofs.Ytcmgdieeclninaa
