/- Layer 8: the walk of places. -/
import Derived.Test.YtcmgdieeclninaaD4
set_option linter.unusedVariables false
set_option linter.unusedSimpArgs false
namespace Go.Proofs.Ytcmgdieeclninaa
open Go.RowKit Go.Proofs.YtcmgdieeclninaaW.PrintWords
theorem int_at {w : World} {A : Option Addr} {n : Nat} {xs : List Int} (h : (Kd.int .i64).C w A n xs) (k : Nat) (hk : k < n) :
    ∃ ad, A = some ad ∧ w.cell? (ad.add k) = some (.int .i64 (xs.getD k 0)) := by
  obtain ⟨ad, e, hc⟩ := Kd.at_int h (k : Int) (by omega) (by omega)
  exact ⟨ad, e, by simpa [rd] using hc⟩
theorem take_snoc {α : Type} (l : List α) (k : Nat) (d : α) (h : k < l.length) : l.take (k + 1) = l.take k ++ [l.getD k d] := by
  rw [List.take_succ_eq_append_getElem h]
  simp [List.getD, List.getElem?_eq_getElem h]
theorem getD_mem {α : Type} (l : List α) (k : Nat) (d : α) (h : k < l.length) : l.getD k d ∈ l := by
  simp [List.getD, List.getElem?_eq_getElem h]
theorem nodup_snoc {α : Type} (l : List α) (x : α) : (l ++ [x]).Nodup ↔ l.Nodup ∧ ¬ x ∈ l := by
  rw [List.nodup_append]
  constructor
  · rintro ⟨h1, _, h2⟩; exact ⟨h1, fun h => h2 x h x (by simp) rfl⟩
  · rintro ⟨h1, h2⟩; exact ⟨h1, by simp, fun a ha b hb e => by rw [List.mem_singleton] at hb; subst hb; subst e; exact h2 ha⟩
theorem nodup_take {α : Type} (l : List α) (k : Nat) (h : l.Nodup) : (l.take k).Nodup := h.sublist (List.take_sublist k l)
set_option maxHeartbeats 2000000 in
theorem places_any (A : Option Addr) (n c : Nat) (xs : List Int) (many : Int) (w : World) (hC0 : (Kd.int .i64).C w A n xs) (hn : n ≤ 9223372036854775807) :
    Calls Try.prog 70 #[.slice A n c, .int .i64 many] w fun e w' => e = .returned (.bool (decide (PlacesOk xs many))) ∧ Below w.heap.size w w' := by
  have HC := Aside0.mk hC0
  have HN := Lib.hid hC0.1
  clear hC0
  have hmm := @run_makeMap Try.prog
  go_enter Try.func70, Try.ntmps70
  go_wp2_with fail
  clear hmm
  go_loopg [11] n (fun gn i wr => ∃ (k : Nat) (l' : List Int), i = .int .i64 k ∧ Aside0 (k + gn = n ∧ (∀ x ∈ xs.take k, 0 ≤ x ∧ x < many) ∧ (xs.take k).Nodup ∧ ∀ x, x ∈ l' ↔ x ∈ xs.take k) ∧ Aside0 (SeenMap wr w.heap.size encI l') ∧ Aside0 (Below w.heap.size w wr))
  case atStart => exact ⟨0, [], rfl, ⟨by omega, by simp, by simp, by simp⟩, ⟨⟨#[], 0, by show (w.heap.push _)[w.heap.size]? = _; simp, rfl⟩⟩, ⟨below_alloc (Below.refl _ _) _⟩⟩
  case round =>
    obtain ⟨k, l', rfl, ⟨hg, hall, hnd, hl'⟩, hS, hB⟩ := hrel
    have HALL := Lib.hid hall
    have HND := Lib.hid hnd
    have HL := Lib.hid hl'
    have HG := Lib.hid hg
    clear hall hnd hl' hg
    by_cases hk : k < n
    · obtain ⟨ad, rfl, hcell0⟩ := int_at HC.out k hk
      have hcell : wr.cell? (ad.add k) = some (.int .i64 (xs.getD k 0)) := pw_cell_below hB.out hcell0
      have hxk : k < xs.length := by rw [HN.out]; exact hk
      have hts := Lib.hid (take_snoc xs k 0 hxk)
      have hmem := Lib.hid (getD_mem xs k 0 hxk)
      obtain ⟨x, hx⟩ : ∃ x, x = xs.getD k 0 := ⟨_, rfl⟩
      rw [← hx] at hcell hts hmem
      clear hcell0 hx hxk
      obtain ⟨b, hbb, hl⟩ := seen_lookup hS.out same_I 115 3 4 Try.underlying115 Try.underlying3 key_I (zero4 wr) x
      obtain ⟨w2, hu, u1, u2, u3, u4, u5, l2, hm2, hl2⟩ := seen_update hS.out same_I bits_I 115 3 4 Try.underlying115 Try.underlying3 key_I x
      simp only [encI] at hl hu
      have HB := Lib.hid hbb
      have HL2 := Lib.hid hl2
      have HM2 := Aside0.mk hm2
      have hb2 : Below w.heap.size w w2 := Mod.below (S := fun i => i = w.heap.size) hB.out ⟨u1, u2, u3, by rw [u4]; exact Nat.le_refl _, fun i hi hn => u5 i hn⟩ hB.out.size (fun i hi => by omega)
      have HB2 := Aside0.mk hb2
      clear hbb u1 u2 u3 u4 u5 hl2 hm2 hb2
      have p0 : (0 : Int) ≤ k := by omega
      have p1 : (k : Int) < n := by omega
      by_cases h0 : x < 0
      · go_wp2_with fail
        go_ret
        exact ⟨ret_bool (decide_eq_false (fun h => by have := (h.2.2.1 x hmem.out).1; omega)).symm, hB.out⟩
      · by_cases h1 : many ≤ x
        · go_wp2_with fail
          go_ret
          exact ⟨ret_bool (decide_eq_false (fun h => by have := (h.2.2.1 x hmem.out).2; omega)).symm, hB.out⟩
        · cases b with
          | true =>
            go_wp2_with fail
            go_ret
            refine ⟨ret_bool (decide_eq_false (fun h => ?_)).symm, hB.out⟩
            have h3 := nodup_take xs (k + 1) h.2.2.2
            rw [hts.out, nodup_snoc] at h3
            exact h3.2 ((HL.out x).1 (by have := HB.out; simpa using this))
          | false =>
            go_wp2_with fail
            go_roundg (n - (k + 1))
            case measure => have := HG.out; omega
            case rel => exact ⟨k + 1, l2, by go_num, ⟨by have := HG.out; omega, fun y hy => by
              rw [hts.out, List.mem_append, List.mem_singleton] at hy
              rcases hy with h | h
              · exact HALL.out y h
              · rw [h]; omega, by
              rw [hts.out, nodup_snoc]
              exact ⟨HND.out, fun h => by have h4 := HB.out; have h5 := (HL.out x).2 h; simp at h4; exact h4 h5⟩, fun y => by
              rw [hts.out, HL2.out, HL.out, List.mem_append, List.mem_singleton, or_comm]⟩, HM2, HB2⟩
    · have hxs : xs.take k = xs := List.take_of_length_le (by rw [HN.out]; omega)
      rw [hxs] at HALL HND
      clear hxs
      go_wp2_with fail
      all_goals
        go_ret
        exact ⟨ret_iff (by have h1 := HALL.out; have h2 := HND.out; have h3 := HN.out; unfold PlacesOk; simp; first | exact ⟨fun h => ⟨by omega, by omega, h1, h2⟩, fun h => by omega⟩ | omega), hB.out⟩
end Go.Proofs.Ytcmgdieeclninaa
