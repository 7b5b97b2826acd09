/- Layer 8: a map whose entries are all true: what a look-up and an update do. -/
import Derived.Test.YtcmgdieeclninaaD2
set_option linter.unusedVariables false
set_option linter.unusedSimpArgs false
namespace Go.Proofs.Ytcmgdieeclninaa
open Go.RowKit Go.Proofs.YtcmgdieeclninaaW.PrintWords
/-- Block m is a map whose keys are these, all of them true. -/
def SeenMap {α : Type} (w : World) (m : Nat) (enc : α → Value) (l : List α) : Prop :=
  ∃ es clock, w.heap[m]? = some (.map es clock) ∧ es.toList.map (fun e => (e.key, e.val)) = l.map (fun k => (enc k, Value.bool true))
/-- What a look-up finds among such entries. -/
theorem findNow_seen {α : Type} [DecidableEq α] {kd : TypeDesc} {enc : α → Value} (hs : ∀ a b, Instr.sameNow kd (enc a) (enc b) = some (decide (a = b))) (k : α) : ∀ (es : List MapEntry) (l : List α) (i : Nat),
    es.map (fun e => (e.key, e.val)) = l.map (fun k => (enc k, Value.bool true)) →
    ∃ r, Instr.findNow kd (enc k) es i = some r ∧ ((k ∈ l ∧ ∃ j, j < es.length ∧ r = some (i + j, .bool true) ∧ l[j]? = some k) ∨ (¬ k ∈ l ∧ r = none))
  | [], [], i, _ => ⟨none, rfl, .inr ⟨by simp, rfl⟩⟩
  | e :: es, x :: l, i, h => by
    simp only [List.map_cons, List.cons.injEq, Prod.mk.injEq] at h
    obtain ⟨⟨h1, h2⟩, h3⟩ := h
    by_cases hk : k = x
    · subst hk
      refine ⟨some (i, e.val), by simp only [Instr.findNow, h1, hs]; simp, .inl ⟨by simp, 0, by simp, by rw [h2]; rfl, rfl⟩⟩
    · obtain ⟨r, hr, hc⟩ := findNow_seen hs k es l (i + 1) h3
      refine ⟨r, by simp only [Instr.findNow, h1, hs]; rw [decide_eq_false hk]; exact hr, ?_⟩
      rcases hc with ⟨hm, j, hj, hre, hl⟩ | ⟨hm, hre⟩
      · exact .inl ⟨by simp [hm], j + 1, by simpa using hj, by rw [hre]; congr 2; omega, hl⟩
      · exact .inr ⟨by simp [hm, hk], hre⟩
  | [], x :: l, i, h => by simp at h
  | e :: es, [], i, h => by simp at h
theorem seen_lookup {α : Type} [DecidableEq α] {P : Program} {w : World} {m : Nat} {enc : α → Value} {l : List α} (h : SeenMap w m enc l) {kd : TypeDesc} (hs : ∀ a b, Instr.sameNow kd (enc a) (enc b) = some (decide (a = b)))
    (T K E : TypeId) (hT : P.underlying T = some (.map K E)) (hK : P.underlying K = some kd) (hk : ∀ a, MapKept.IsKey kd (enc a)) (hz : (zeroValue E).run P w = .ok (.bool false) w) (k : α) :
    ∃ b : Bool, (b = true ↔ k ∈ l) ∧ (Instr.lookup T (.map (some m)) (enc k) false).run P w = .ok (.bool b) w := by
  refine ⟨decide (k ∈ l), by simp, ?_⟩
  obtain ⟨es, clock, hh, he⟩ := h
  obtain ⟨r, hr, hc⟩ := findNow_seen hs k es.toList l 0 he
  have h1 := MapKept.run_getObj_map (P := P) hh
  have h2 := MapKept.run_checkKey (P := P) (w := w) hK (hk k) es.isEmpty 9999
  have h3 := MapKept.run_findKey (P := P) (w := w) hK hr
  simp only [Instr.lookup, Sem.run_bind, run_underlying hT, Result.andThen_ok, h1, Sem.run_pure]
  have h2' : (Instr.checkKey es.isEmpty 10000 K (enc k)).run P w = .ok () w := h2
  rw [h2']
  rcases hc with ⟨hm, j, hj, hre, _⟩ | ⟨hm, hre⟩
  · subst hre
    simp [Result.andThen_ok, h3, hm]
  · subst hre
    simp [Result.andThen_ok, h3, hm, hz]
/-- The world behind an update. -/
theorem seen_update {α : Type} [DecidableEq α] {P : Program} {w : World} {m : Nat} {enc : α → Value} {l : List α} (h : SeenMap w m enc l) {kd : TypeDesc} (hs : ∀ a b, Instr.sameNow kd (enc a) (enc b) = some (decide (a = b)))
    (hb : ∀ a, Instr.sameBits 10000 (enc a) (enc a) = true)
    (T K E : TypeId) (hT : P.underlying T = some (.map K E)) (hK : P.underlying K = some kd) (hk : ∀ a, MapKept.IsKey kd (enc a)) (k : α) :
    ∃ w', (Instr.mapUpdate T (.map (some m)) (enc k) (.bool true)).run P w = .ok () w' ∧ w'.os = w.os ∧ w'.tape = w.tape ∧ w'.output = w.output ∧ w'.heap.size = w.heap.size ∧ (∀ i, i ≠ m → w'.heap[i]? = w.heap[i]?) ∧
      ∃ l', SeenMap w' m enc l' ∧ ∀ x, x ∈ l' ↔ x = k ∨ x ∈ l := by
  obtain ⟨es, clock, hh, he⟩ := h
  have hlt : m < w.heap.size := (Array.getElem?_eq_some_iff.1 hh).1
  have h1 := MapKept.run_getObj_map (P := P) hh
  have h2 := MapKept.run_checkKey (P := P) (w := w) hK (hk k) false 9999
  have h2' : (Instr.checkKey false 10000 K (enc k)).run P w = .ok () w := h2
  obtain ⟨r, hr, hc⟩ := findNow_seen hs k es.toList l 0 he
  have h3 := MapKept.run_findKey (P := P) (w := w) hK hr
  rcases hc with ⟨hm, j, hj, hre, hl⟩ | ⟨hm, hre⟩
  · subst hre
    have hkey : ((es[0 + j]?).map (·.key)).getD (enc k) = enc k := by
      have h1 := congrArg (fun x => x[j]?) he
      simp only [List.getElem?_map, hl, Option.map_some] at h1
      rw [Nat.zero_add, ← Array.getElem?_toList]
      cases hx : es.toList[j]? with
      | none => rfl
      | some e =>
        rw [hx] at h1
        simp only [Option.map_some, Option.some.injEq, Prod.mk.injEq] at h1
        simp [h1.1]
    refine ⟨{ w with heap := w.heap.setIfInBounds m (.map (es.modify (0 + j) fun e => { e with key := enc k, val := .bool true }) clock) }, ?_, rfl, rfl, rfl, by simp, fun i hi => ?_, l, ⟨es.modify (0 + j) fun e => { e with key := enc k, val := .bool true }, clock, ?_, ?_⟩, fun x => ?_⟩
    · simp only [Instr.mapUpdate, Sem.run_bind, run_underlying hT, Result.andThen_ok, h1]
      rw [h2']
      simp only [Result.andThen_ok, h3, hkey, Instr.keyThatStays, hb, if_true, Sem.run_bind, Sem.run_pure]
      exact MapKept.run_setObj_map _ hh
    · simp [Array.getElem?_setIfInBounds, Ne.symm hi]
    · simp [Array.getElem?_setIfInBounds, hlt]
    · rw [Array.toList_modify, ← he]
      apply List.ext_getElem?
      intro i
      simp only [List.getElem?_map, List.getElem?_modify]
      have h1 := congrArg (fun x => x[j]?) he
      simp only [List.getElem?_map, hl, Option.map_some] at h1
      by_cases hij : 0 + j = i
      · have hji : j = i := by omega
        subst hji
        cases hx : es.toList[j]? with
        | none => simp [hx] at h1
        | some e =>
          rw [hx] at h1
          simp only [Option.map_some, Option.some.injEq, Prod.mk.injEq] at h1
          simp [hx, h1.1, h1.2]
      · have hji : ¬ j = i := by omega
        cases hx : es.toList[i]? <;> simp [hji]
    · constructor
      · exact fun h => .inr h
      · rintro (rfl | h)
        · exact hm
        · exact h
  · subst hre
    refine ⟨{ w with heap := w.heap.setIfInBounds m (.map (es.push { key := enc k, val := .bool true, born := clock }) (clock + 1)) }, ?_, rfl, rfl, rfl, by simp, fun i hi => ?_, l ++ [k], ⟨es.push { key := enc k, val := .bool true, born := clock }, clock + 1, ?_, ?_⟩, fun x => ?_⟩
    · simp only [Instr.mapUpdate, Sem.run_bind, run_underlying hT, Result.andThen_ok, h1]
      rw [h2']
      simp only [Result.andThen_ok, h3]
      exact MapKept.run_setObj_map _ hh
    · simp [Array.getElem?_setIfInBounds, Ne.symm hi]
    · simp [Array.getElem?_setIfInBounds, hlt]
    · simp [he]
    · simp [or_comm]
instance : LawfulBEq ByteArray := { eq_of_beq := fun {a b} h => (MapKept.bytes_beq a b).1 h, rfl := fun {a} => (MapKept.bytes_beq a a).2 rfl }
def encS (s : ByteArray) : Value := .string s
def encI (n : Int) : Value := .int .i64 n
theorem key_S (a : ByteArray) : MapKept.IsKey .string (encS a) := by simp [MapKept.IsKey, encS]
theorem key_I (a : Int) : MapKept.IsKey (.int .i64) (encI a) := by simp [MapKept.IsKey, encI]
theorem same_S (a b : ByteArray) : Instr.sameNow .string (encS a) (encS b) = some (decide (a = b)) := by
  simp only [Instr.sameNow, encS]
  congr 1
  rw [Bool.eq_iff_iff, MapKept.bytes_beq, decide_eq_true_iff]
theorem same_I (a b : Int) : Instr.sameNow (.int .i64) (encI a) (encI b) = some (decide (a = b)) := by
  simp only [Instr.sameNow, encI, if_true]
  congr 1
theorem bits_S (a : ByteArray) : Instr.sameBits 10000 (encS a) (encS a) = true := by
  show (a == a) = true
  exact (MapKept.bytes_beq a a).2 rfl
theorem bits_I (a : Int) : Instr.sameBits 10000 (encI a) (encI a) = true := by
  show (IntKind.i64 == IntKind.i64 && a == a) = true
  simp
end Go.Proofs.Ytcmgdieeclninaa
