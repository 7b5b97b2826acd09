/- Layer 8: what may turn; the walks of met and its closure. -/
import Derived.Test.YtcmgdieeclninaaD3
set_option linter.unusedVariables false
set_option linter.unusedSimpArgs false
namespace Go.Proofs.Ytcmgdieeclninaa
open Go.RowKit Go.Proofs.YtcmgdieeclninaaW.PrintWords
/-- Of what was there only the blocks of S may have turned. -/
structure Mod (w w' : World) (S : Nat → Prop) : Prop where
  os : w'.os = w.os
  tape : w'.tape = w.tape
  output : w'.output = w.output
  size : w.heap.size ≤ w'.heap.size
  block : ∀ i, i < w.heap.size → ¬ S i → w'.heap[i]? = w.heap[i]?
theorem Mod.refl (w : World) (S : Nat → Prop) : Mod w w S := ⟨rfl, rfl, rfl, Nat.le_refl _, fun _ _ _ => rfl⟩
theorem Mod.trans {a b c : World} {S : Nat → Prop} (h : Mod a b S) (k : Mod b c S) : Mod a c S :=
  ⟨k.os.trans h.os, k.tape.trans h.tape, k.output.trans h.output, Nat.le_trans h.size k.size, fun i hi hs => (k.block i (Nat.lt_of_lt_of_le hi h.size) hs).trans (h.block i hi hs)⟩
theorem Mod.mono {a b : World} {S S' : Nat → Prop} (h : Mod a b S) (hs : ∀ i, S i → S' i) : Mod a b S' := ⟨h.os, h.tape, h.output, h.size, fun i hi hn => h.block i hi (fun x => hn (hs i x))⟩
theorem Mod.of_below {a b : World} {S : Nat → Prop} (h : Below a.heap.size a b) : Mod a b S := ⟨h.os, h.tape, h.output, h.size, fun i hi _ => h.block i hi⟩
theorem Mod.below {B : Nat} {a b c : World} {S : Nat → Prop} (h : Below B a b) (k : Mod b c S) (hB : B ≤ b.heap.size) (hS : ∀ i, S i → B ≤ i) : Below B a c :=
  h.trans ⟨k.os, k.tape, k.output, k.size, fun i hi => k.block i (by omega) (fun hs => by have := hS i hs; omega)⟩
/-- What lies outside S, or is new, may turn as it likes. -/
theorem Mod.then_new {a b c : World} {S S' : Nat → Prop} (h : Mod a b S) (k : Mod b c S') (hs : ∀ i, i < a.heap.size → S' i → S i) : Mod a c S :=
  ⟨k.os.trans h.os, k.tape.trans h.tape, k.output.trans h.output, Nat.le_trans h.size k.size, fun i hi hn => (k.block i (Nat.lt_of_lt_of_le hi h.size) (fun x => hn (hs i hi x))).trans (h.block i hi hn)⟩
theorem Mod.drewN {a b : World} {S : Nat → Prop} (h : Mod a b S) (n : Nat) : Mod a (b.drewN n) S := ⟨h.os, h.tape, h.output, h.size, h.block⟩
/-- What a 'met' has met: the closure's variable is block g, its map block m. -/
structure MetSt (w : World) (g m : Nat) (l : List ByteArray) : Prop where
  var : w.heap[g]? = some (.cells #[.map (some m)] 106 (0, 0))
  map : SeenMap w m encS l
theorem SeenMap.keep {α : Type} {w w' : World} {m : Nat} {enc : α → Value} {l : List α} (h : SeenMap w m enc l) (hb : w'.heap[m]? = w.heap[m]?) : SeenMap w' m enc l := by
  obtain ⟨es, c, h1, h2⟩ := h
  exact ⟨es, c, by rw [hb, h1], h2⟩
theorem SeenMap.lt {α : Type} {w : World} {m : Nat} {enc : α → Value} {l : List α} (h : SeenMap w m enc l) : m < w.heap.size := by
  obtain ⟨es, c, h1, _⟩ := h
  exact (Array.getElem?_eq_some_iff.1 h1).1
theorem MetSt.keep {w w' : World} {g m : Nat} {l : List ByteArray} {S : Nat → Prop} (h : MetSt w g m l) (k : Mod w w' S) (hg : ¬ S g) (hm : ¬ S m) : MetSt w' g m l :=
  ⟨by rw [k.block g (blk_lt h.var) hg, h.var], h.map.keep (k.block m h.map.lt hm)⟩
theorem MetSt.ne {w : World} {g m : Nat} {l : List ByteArray} (h : MetSt w g m l) : g ≠ m := by
  rintro rfl
  obtain ⟨es, c, h1, _⟩ := h.map
  rw [h.var] at h1
  simp at h1
theorem zero4 (w : World) : (zeroValue 4).run Try.prog w = .ok (.bool false) w := by kernel_rfl
def MetPost (w : World) (e : Ending) (w' : World) : Prop :=
  ∃ g m, e = .returned (.func (.func 82) #[] #[.pointer (some ⟨g, 0, none⟩)]) ∧ MetSt w' g m [] ∧ w.heap.size ≤ g ∧ w.heap.size ≤ m ∧ Below w.heap.size w w'
set_option maxHeartbeats 1000000 in
theorem met_any (w : World) : Calls Try.prog 44 #[] w (MetPost w) := by
  have hmm := @run_makeMap Try.prog
  go_enter Try.func44, Try.ntmps44
  go_wp2
  go_ret
  refine ⟨w.heap.size + 1, w.heap.size, rfl, ⟨?_, ⟨#[], 0, ?_, rfl⟩⟩, by omega, by omega, below_alloc (below_alloc (Below.refl _ _) _) _⟩
  · show ((w.heap.push _).push _)[w.heap.size + 1]? = _
    rw [Array.getElem?_push, if_pos (by simp)]
  · show ((w.heap.push _).push _)[w.heap.size]? = _
    rw [Array.getElem?_push, if_neg (by simp), Array.getElem?_push, if_pos rfl]
def MetNext (s : ByteArray) (g m : Nat) (l : List ByteArray) (w : World) (e : Ending) (w' : World) : Prop :=
  e = .returned (.bool (decide (NameOk s ∧ ¬ s ∈ l))) ∧ Mod w w' (fun i => i = m) ∧ ∃ l', MetSt w' g m l' ∧ ∀ x, x ∈ l' ↔ x = s ∨ x ∈ l
set_option maxHeartbeats 1000000 in
theorem metnext_any (s : ByteArray) (g m : Nat) (l : List ByteArray) (w : World) (h : MetSt w g m l) : Calls Try.prog 82 #[.string s, .pointer (some ⟨g, 0, none⟩)] w (MetNext s g m l w) := by
  go_enter Try.func82, Try.ntmps82
  go_wp2_with fail
  refine (named_any s _).mono ?_
  rintro e w1 ⟨rfl, hb1⟩
  have h1 : MetSt w1 g m l := h.keep (S := fun i => i = m ∧ False) (Mod.of_below hb1) (fun h => h.2) (fun h => h.2)
  have hc : w1.cell? ⟨g, 0, none⟩ = some (.map (some m)) := blk_cell h1.var 0
  obtain ⟨b, hbb, hl⟩ := seen_lookup h1.map same_S 106 9 4 Try.underlying106 Try.underlying9 key_S (zero4 w1) s
  obtain ⟨w2, hu, u1, u2, u3, u4, u5, l', hm2, hl2⟩ := seen_update h1.map same_S bits_S 106 9 4 Try.underlying106 Try.underlying9 key_S s
  simp only [encS] at hl hu
  have HB := Lib.hid hbb
  have HU5 := Lib.hid u5
  have HL2 := Lib.hid hl2
  have HM2 := Lib.hid hm2
  have HU : Mod w w2 (fun i => i = m) := ⟨u1.trans hb1.os, u2.trans hb1.tape, u3.trans hb1.output, by rw [u4]; exact hb1.size, fun i hi hn => (u5 i hn).trans (hb1.block i hi)⟩
  have hv2 : MetSt w2 g m l' := ⟨by rw [u5 g h1.ne]; exact h1.var, hm2⟩
  have HV2 := Lib.hid hv2
  have HU6 := Lib.hid HU
  clear hbb u1 u2 u3 u4 u5 hl2 hm2 HU hv2
  by_cases hn : NameOk s
  · rw [decide_eq_true hn]
    go_wp2_with fail
    go_ret
    exact ⟨ret_iff (by have := HB.out; cases b <;> simp_all), HU6.out, l', HV2.out, HL2.out⟩
  · rw [decide_eq_false hn]
    go_wp2_with fail
    go_ret
    exact ⟨ret_bool (decide_eq_false (fun h => hn h.1)).symm, HU6.out, l', HV2.out, HL2.out⟩
end Go.Proofs.Ytcmgdieeclninaa
