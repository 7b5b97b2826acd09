/- Layer 8: the walks of Contains over numbers and of the reference's places. -/
import Derived.Test.YtcmgdieeclninaaD5
set_option linter.unusedVariables false
set_option linter.unusedSimpArgs false
namespace Go.Proofs.Ytcmgdieeclninaa
open Go.RowKit Go.Proofs.YtcmgdieeclninaaW.PrintWords
set_option maxHeartbeats 1000000 in
theorem index_int (A : Option Addr) (n c : Nat) (xs : List Int) (x : Int) (w : World) (hC0 : (Kd.int .i64).C w A n xs) (hn : n ≤ 9223372036854775807) :
    Calls Try.prog 98 #[.slice A n c, .int .i64 x] w fun e w' => ∃ r : Int, e = .returned (.int .i64 r) ∧ (0 ≤ r ↔ x ∈ xs) ∧ w' = w := by
  have HC := Aside0.mk hC0
  have HN := Lib.hid hC0.1
  clear hC0
  go_enter Try.func98, Try.ntmps98
  go_wp2_with fail
  go_loop [8] (fun i => ∃ k : Nat, i = .int .i64 k ∧ Aside0 (k ≤ n ∧ ¬ x ∈ xs.take k)) (fun i => n - (intOf i).toNat)
  case atStart => exact ⟨0, rfl, ⟨Nat.zero_le _, by simp⟩⟩
  case round =>
    obtain ⟨k, rfl, ⟨hk0, hall⟩⟩ := hrel
    have HALL := Lib.hid hall
    clear hall
    by_cases hk : k < n
    · obtain ⟨ad, rfl, hcell⟩ := int_at HC.out k hk
      have hxk : k < xs.length := by rw [HN.out]; exact hk
      have hts := Lib.hid (take_snoc xs k 0 hxk)
      have hmem := Lib.hid (getD_mem xs k 0 hxk)
      obtain ⟨y, hy⟩ : ∃ y, y = xs.getD k 0 := ⟨_, rfl⟩
      rw [← hy] at hcell hts hmem
      clear hy hxk
      have p0 : (0 : Int) ≤ k := by omega
      have p1 : (k : Int) < n := by omega
      by_cases hE : x = y
      · have hE2 : (x == y) = true := by rw [beq_iff_eq]; exact hE
        have HE := Lib.hid hE
        clear hE
        go_wp2_with fail
        go_ret
        exact ⟨(k : Int), rfl, ⟨fun _ => by rw [HE.out]; exact hmem.out, fun _ => by omega⟩, rfl⟩
      · have hE2 : (x == y) = false := by rw [beq_eq_false_iff_ne]; exact hE
        have HE := Lib.hid hE
        clear hE
        go_wp2_with fail
        go_round
        case rel => exact ⟨k + 1, by go_num, ⟨by omega, by rw [hts.out, List.mem_append, List.mem_singleton]; rintro (h | h); exact HALL.out h; exact HE.out h⟩⟩
        case measure => simp [intOf]; omega
    · have hxs : xs.take k = xs := List.take_of_length_le (by rw [HN.out]; omega)
      rw [hxs] at HALL
      clear hxs
      go_wp2_with fail
      go_ret
      exact ⟨-1, rfl, ⟨fun h => by omega, fun h => absurd h HALL.out⟩, rfl⟩
set_option maxHeartbeats 1000000 in
theorem contains_int (A : Option Addr) (n c : Nat) (xs : List Int) (x : Int) (w : World) (hC0 : (Kd.int .i64).C w A n xs) (hn : n ≤ 9223372036854775807) :
    Calls Try.prog 71 #[.slice A n c, .int .i64 x] w fun e w' => e = .returned (.bool (decide (x ∈ xs))) ∧ w' = w := by
  have HC := Aside0.mk hC0
  clear hC0
  go_enter Try.func71, Try.ntmps71
  go_wp2_with fail
  refine (index_int A n c xs x _ HC.out hn).mono ?_
  rintro e w1 ⟨r, rfl, hr, hw1⟩
  obtain rfl := hw1.symm
  have HR := Lib.hid hr
  clear hr
  go_wp2_with fail
  go_ret
  exact ⟨ret_bool (by rw [decide_eq_decide]; exact HR.out), rfl⟩
set_option maxHeartbeats 2000000 in
theorem placesref_any (A : Option Addr) (n c : Nat) (xs : List Int) (many : Int) (w : World) (hC0 : (Kd.int .i64).C w A n xs) :
    Calls Try.prog 80 #[.slice A n c, .int .i64 many] w fun e w' => e = .returned (.bool (decide (PlacesOk xs many))) ∧ Below w.heap.size w w' := by
  have HC := Aside0.mk hC0
  have HN := Lib.hid hC0.1
  clear hC0
  by_cases hn1 : 1 ≤ n
  · by_cases hn8 : n ≤ 8
    · go_enter Try.func80, Try.ntmps80
      go_wp2_with fail
      go_loopg [5] n (fun gn i wr => ∃ k : Nat, i = .int .i64 k ∧ Aside0 (k + gn = n ∧ (∀ x ∈ xs.take k, 0 ≤ x ∧ x < many) ∧ (xs.take k).Nodup) ∧ Drawn0 w wr)
      case atStart => exact ⟨0, rfl, ⟨by omega, by simp, by simp⟩, Drawn0.refl _⟩
      case round =>
        obtain ⟨k, rfl, ⟨hg, hall, hnd⟩, ⟨nq, rfl⟩⟩ := hrel
        have HALL := Lib.hid hall
        have HND := Lib.hid hnd
        have HG := Lib.hid hg
        clear hall hnd hg
        by_cases hk : k < n
        · obtain ⟨ad, rfl, hcell⟩ := int_at HC.out k hk
          have hxk : k < xs.length := by rw [HN.out]; exact hk
          have hts := Lib.hid (take_snoc xs k 0 hxk)
          have hmem := Lib.hid (getD_mem xs k 0 hxk)
          obtain ⟨x, hx⟩ : ∃ x, x = xs.getD k 0 := ⟨_, rfl⟩
          rw [← hx] at hcell hts hmem
          clear hx hxk
          have p0 : (0 : Int) ≤ k := by omega
          have p1 : (k : Int) < n := by omega
          by_cases h0 : x < 0
          · go_wp2_with fail
            go_ret
            exact ⟨ret_bool (decide_eq_false (fun h => by have := (h.2.2.1 x hmem.out).1; omega)).symm, Drawn0.below ⟨⟨_, rfl⟩⟩⟩
          · by_cases h1 : many ≤ x
            · go_wp2_with fail
              go_ret
              exact ⟨ret_bool (decide_eq_false (fun h => by have := (h.2.2.1 x hmem.out).2; omega)).symm, Drawn0.below ⟨⟨_, rfl⟩⟩⟩
            · go_wp2_with fail
              go_loopg [6] k (fun gn i wr => ∃ j : Nat, i = .int .i64 j ∧ Aside0 (j + gn = k ∧ ¬ x ∈ xs.take j) ∧ Drawn0 w wr)
              case atStart => exact ⟨0, rfl, ⟨by omega, by simp⟩, ⟨⟨_, rfl⟩⟩⟩
              case round =>
                obtain ⟨j, rfl, ⟨hg2, hall2⟩, ⟨nq2, rfl⟩⟩ := hrel
                have HALL2 := Lib.hid hall2
                have HG2 := Lib.hid hg2
                clear hall2 hg2
                by_cases hj : j < k
                · obtain ⟨ad2, had, hcell2⟩ := int_at HC.out j (by omega)
                  cases had
                  have hxj : j < xs.length := by rw [HN.out]; omega
                  have hts2 := Lib.hid (take_snoc xs j 0 hxj)
                  have hmem2 := Lib.hid (getD_mem xs j 0 hxj)
                  have hlt2 : xs.getD j 0 ∈ xs.take k := by
                    rw [List.getD, List.getElem?_eq_getElem hxj, Option.getD_some]
                    exact List.mem_take_iff_getElem.2 ⟨j, by omega, rfl⟩
                  obtain ⟨y, hy⟩ : ∃ y, y = xs.getD j 0 := ⟨_, rfl⟩
                  rw [← hy] at hcell2 hts2 hmem2 hlt2
                  have HLT2 := Lib.hid hlt2
                  clear hy hxj hlt2
                  have q0 : (0 : Int) ≤ j := by omega
                  have q1 : (j : Int) < n := by omega
                  by_cases hE : y = x
                  · have hE2 : (y == x) = true := by rw [beq_iff_eq]; exact hE
                    have HE := Lib.hid hE
                    clear hE
                    go_wp2_with fail
                    go_quiet (fail)
                    go_wp2_with fail
                    go_ret
                    refine ⟨ret_bool (decide_eq_false (fun h => ?_)).symm, Drawn0.below (Drawn0.step ⟨⟨_, rfl⟩⟩ _)⟩
                    have h3 := nodup_take xs (k + 1) h.2.2.2
                    rw [hts.out, nodup_snoc] at h3
                    exact h3.2 (HE.out ▸ HLT2.out)
                  · have hE2 : (y == x) = false := by rw [beq_eq_false_iff_ne]; exact hE
                    have HE := Lib.hid hE
                    clear hE
                    go_wp2_with fail
                    go_quiet (fail)
                    go_wp2_with fail
                    go_roundg (k - (j + 1))
                    case measure => have := HG2.out; omega
                    case rel => exact ⟨j + 1, by go_num, ⟨by have := HG2.out; omega, by rw [hts2.out, List.mem_append, List.mem_singleton]; rintro (h | h); exact HALL2.out h; exact HE.out h.symm⟩, ⟨⟨_, rfl⟩⟩⟩
                · obtain rfl : j = k := by have := HG2.out; omega
                  go_wp2_with fail
                  go_roundg (n - (j + 1))
                  case measure => have := HG.out; omega
                  case rel => exact ⟨j + 1, by go_num, ⟨by have := HG.out; omega, fun y hy => by
                    rw [hts.out, List.mem_append, List.mem_singleton] at hy
                    rcases hy with h | h
                    · exact HALL.out y h
                    · rw [h]; omega, by rw [hts.out, nodup_snoc]; exact ⟨HND.out, HALL2.out⟩⟩, ⟨⟨_, rfl⟩⟩⟩
        · have hxs : xs.take k = xs := List.take_of_length_le (by rw [HN.out]; omega)
          rw [hxs] at HALL HND
          clear hxs
          go_wp2_with fail
          go_ret
          exact ⟨ret_bool (decide_eq_true (show PlacesOk xs many from ⟨by have := HN.out; omega, by have := HN.out; omega, HALL.out, HND.out⟩)).symm, Drawn0.below ⟨⟨_, rfl⟩⟩⟩
    · go_enter Try.func80, Try.ntmps80
      go_wp2_with fail
      go_ret
      exact ⟨ret_bool (decide_eq_false (fun h => by have := h.2.1; have := HN.out; omega)).symm, Below.refl _ _⟩
  · go_enter Try.func80, Try.ntmps80
    go_wp2_with fail
    go_ret
    exact ⟨ret_bool (decide_eq_false (fun h => by have := h.1; have := HN.out; omega)).symm, Below.refl _ _⟩
end Go.Proofs.Ytcmgdieeclninaa
