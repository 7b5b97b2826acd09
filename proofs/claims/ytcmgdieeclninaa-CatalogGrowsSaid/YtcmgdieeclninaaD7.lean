/- Layer 8: the walks of the reference's Name and names. -/
import Derived.Test.YtcmgdieeclninaaD6
set_option linter.unusedVariables false
set_option linter.unusedSimpArgs false
namespace Go.Proofs.Ytcmgdieeclninaa
open Go.RowKit Go.Proofs.YtcmgdieeclninaaW.PrintWords
theorem mem_of_getD (l : List UInt8) (P : UInt8 → Prop) (h : ∀ j, j < l.length → P (l.getD j 0)) : ∀ b ∈ l, P b := by
  intro b hb
  obtain ⟨j, hj, rfl⟩ := List.mem_iff_getElem.1 hb
  have := h j hj
  rwa [List.getD, List.getElem?_eq_getElem hj] at this
set_option maxHeartbeats 2000000 in
theorem nameref_any (s : ByteArray) (w : World) (hs : s.size ≤ 9223372036854775807) :
    Calls Try.prog 79 #[.string s] w fun e w' => e = .returned (.bool (decide (NameOk s))) ∧ w' = w := by
  by_cases h0 : s.size < 1
  · go_enter Try.func79, Try.ntmps79
    go_wp2_with fail
    go_ret
    exact ⟨ret_bool (decide_eq_false (fun h => by have := h.1; omega)).symm, rfl⟩
  · have hp : 0 < s.size := by omega
    by_cases h16 : 16 < s.size
    · go_enter Try.func79, Try.ntmps79
      go_wp2_with fail
      go_ret
      exact ⟨ret_bool (decide_eq_false (fun h => by have := h.2.1; omega)).symm, rfl⟩
    · obtain ⟨x, hx⟩ : ∃ x : Int, ∀ h : 0 < s.size, ((s[0]'h).toNat : Int) = x := ⟨(s[0].toNat : Int), fun _ => rfl⟩
      have hxd : x = ((s.data.toList.getD 0 0).toNat : Int) := by rw [← hx hp, byte_getD s 0 hp]
      have HX := Lib.hid hxd
      clear hxd
      by_cases ha : x < 97
      · go_enter Try.func79, Try.ntmps79
        go_wp2_with fail
        go_ret
        exact ⟨ret_bool (decide_eq_false (fun h => by have := h.2.2.1; have := HX.out; omega)).symm, rfl⟩
      · by_cases hz : 122 < x
        · go_enter Try.func79, Try.ntmps79
          go_wp2_with fail
          go_ret
          exact ⟨ret_bool (decide_eq_false (fun h => by have := h.2.2.2.1; have := HX.out; omega)).symm, rfl⟩
        · go_enter Try.func79, Try.ntmps79
          go_wp2_with fail
          clear hx
          go_loop [3] (fun i => ∃ k : Nat, i = .int .i64 k ∧ Aside0 (k ≤ s.size ∧ ∀ j, j < k → nbB (s.data.toList.getD j 0))) (fun i => s.size - (intOf i).toNat)
          case atStart => exact ⟨0, rfl, ⟨Nat.zero_le _, fun j h => absurd h (Nat.not_lt_zero _)⟩⟩
          case round =>
            obtain ⟨k, rfl, ⟨hk0, hall⟩⟩ := hrel
            have HALL := Lib.hid hall
            clear hall
            by_cases hk : k < s.size
            · obtain ⟨y, hy⟩ : ∃ y : Int, ∀ h : k < s.size, ((s[k]'h).toNat : Int) = y := ⟨(s[k].toNat : Int), fun _ => rfl⟩
              have hyd : y = ((s.data.toList.getD k 0).toNat : Int) := by rw [← hy hk, byte_getD s k hk]
              have HY := Lib.hid hyd
              have hmem := Lib.hid (mem_getD s k hk)
              clear hyd
              have hcases : y = 95 ∨ (y < 48 ∨ (57 < y ∧ y < 95) ∨ y = 96 ∨ 122 < y) ∨ (48 ≤ y ∧ y ≤ 57) ∨ (97 ≤ y ∧ y ≤ 122) := by omega
              rcases hcases with hc | hc | hc | hc
              · have he : (y == 95) = true := by rw [beq_iff_eq]; exact hc
                have he2 : (y != 95) = false := by rw [bne_eq_false_iff_eq]; exact hc
                have HC := Lib.hid hc
                clear hc
                go_wp2_with fail
                go_round
                case rel => exact ⟨k + 1, by go_num, ⟨by omega, fun j hj => by
                  rcases Nat.lt_succ_iff_lt_or_eq.1 hj with h | h
                  · exact HALL.out j h
                  · rw [h]; unfold nbB; have := HY.out; have := HC.out; omega⟩⟩
                case measure => simp [intOf]; omega
              · have he : (y == 95) = false := by rw [beq_eq_false_iff_ne]; omega
                have he2 : (y != 95) = true := by rw [bne_iff_ne]; omega
                have hnb : ¬ nbB (s.data.toList.getD k 0) := by unfold nbB; have := HY.out; omega
                have HNB := Lib.hid hnb
                clear hnb
                rcases hc with hc | ⟨hc1, hc2⟩ | hc | hc
                all_goals
                  go_wp2_with fail
                  go_ret
                  exact ⟨ret_bool (decide_eq_false (fun h => HNB.out (h.2.2.2.2 _ hmem.out))).symm, rfl⟩
              · have he : (y == 95) = false := by rw [beq_eq_false_iff_ne]; omega
                have he2 : (y != 95) = true := by rw [bne_iff_ne]; omega
                obtain ⟨hc1, hc2⟩ := hc
                go_wp2_with fail
                go_round
                case rel => exact ⟨k + 1, by go_num, ⟨by omega, fun j hj => by
                  rcases Nat.lt_succ_iff_lt_or_eq.1 hj with h | h
                  · exact HALL.out j h
                  · rw [h]; unfold nbB; have := HY.out; omega⟩⟩
                case measure => simp [intOf]; omega
              · have he : (y == 95) = false := by rw [beq_eq_false_iff_ne]; omega
                have he2 : (y != 95) = true := by rw [bne_iff_ne]; omega
                obtain ⟨hc1, hc2⟩ := hc
                go_wp2_with fail
                go_round
                case rel => exact ⟨k + 1, by go_num, ⟨by omega, fun j hj => by
                  rcases Nat.lt_succ_iff_lt_or_eq.1 hj with h | h
                  · exact HALL.out j h
                  · rw [h]; unfold nbB; have := HY.out; omega⟩⟩
                case measure => simp [intOf]; omega
            · go_wp2_with fail
              go_ret
              exact ⟨ret_bool (decide_eq_true (show NameOk s from ⟨by omega, by omega, by have := HX.out; omega, by have := HX.out; omega, mem_of_getD _ _ (fun j hj => HALL.out j (by rw [ba_len] at hj; omega))⟩)).symm, rfl⟩
theorem str_at {w : World} {A : Option Addr} {n : Nat} {xs : List ByteArray} (h : Kd.string.C w A n xs) (k : Nat) (hk : k < n) :
    ∃ ad, A = some ad ∧ w.cell? (ad.add k) = some (.string (xs.getD k ByteArray.empty)) := by
  obtain ⟨ad, e, hc⟩ := Kd.at_string h (k : Int) (by omega) (by omega)
  exact ⟨ad, e, by simpa [rdOf] using hc⟩
set_option maxHeartbeats 2000000 in
theorem namesref_any (A : Option Addr) (n c : Nat) (xs : List ByteArray) (w : World) (hC0 : Kd.string.C w A n xs) (hn0 : n ≤ 9223372036854775807) (hsz : ∀ x ∈ xs, x.size ≤ 140737488351232) :
    Calls Try.prog 58 #[.slice A n c] w fun e w' => e = .returned (.bool (decide (NamesOk xs))) ∧ Below w.heap.size w w' := by
  have HC := Aside0.mk hC0
  have HN := Lib.hid hC0.1
  have HSZ := Lib.hid hsz
  clear hC0 hsz
  go_enter Try.func58, Try.ntmps58
  go_wp2_with fail
  go_loopg [3] n (fun gn i wr => ∃ k : Nat, i = .int .i64 k ∧ Aside0 (k + gn = n ∧ (∀ x ∈ xs.take k, NameOk x) ∧ (xs.take k).Nodup) ∧ Drawn0 w wr)
  case atStart => exact ⟨0, rfl, ⟨by omega, by simp, by simp⟩, Drawn0.refl _⟩
  case round =>
    obtain ⟨k, rfl, ⟨hg, hall, hnd⟩, ⟨nq, rfl⟩⟩ := hrel
    have HALL := Lib.hid hall
    have HND := Lib.hid hnd
    have HG := Lib.hid hg
    clear hall hnd hg
    by_cases hk : k < n
    · obtain ⟨ad, rfl, hcell⟩ := str_at HC.out k hk
      have hxk : k < xs.length := by rw [HN.out]; exact hk
      have hts := Lib.hid (take_snoc xs k ByteArray.empty hxk)
      have hmem := Lib.hid (getD_mem xs k ByteArray.empty hxk)
      obtain ⟨x, hx⟩ : ∃ x, x = xs.getD k ByteArray.empty := ⟨_, rfl⟩
      rw [← hx] at hcell hts hmem
      have hxz : x.size ≤ 140737488351232 := HSZ.out x hmem.out
      clear hx hxk
      have p0 : (0 : Int) ≤ k := by omega
      have p1 : (k : Int) < n := by omega
      go_wp2_with fail
      refine (nameref_any x _ (by omega)).mono ?_
      rintro e w1 ⟨rfl, hw1⟩
      obtain rfl := hw1.symm
      by_cases hno : NameOk x
      · rw [decide_eq_true hno]
        have HNO := Lib.hid hno
        clear hno
        go_wp2_with fail
        go_loopg [5] k (fun gn i wr => ∃ j : Nat, i = .int .i64 j ∧ Aside0 (j + gn = k ∧ ¬ x ∈ xs.take j) ∧ Drawn0 w wr)
        case atStart => exact ⟨0, rfl, ⟨by omega, by simp⟩, ⟨⟨_, rfl⟩⟩⟩
        case round =>
          obtain ⟨j, rfl, ⟨hg2, hall2⟩, ⟨nq2, rfl⟩⟩ := hrel
          have HALL2 := Lib.hid hall2
          have HG2 := Lib.hid hg2
          clear hall2 hg2
          by_cases hj : j < k
          · obtain ⟨ad2, had, hcell2⟩ := str_at HC.out j (by omega)
            cases had
            have hxj : j < xs.length := by rw [HN.out]; omega
            have hts2 := Lib.hid (take_snoc xs j ByteArray.empty hxj)
            have hlt2 : xs.getD j ByteArray.empty ∈ xs.take k := by
              rw [List.getD, List.getElem?_eq_getElem hxj, Option.getD_some]
              exact List.mem_take_iff_getElem.2 ⟨j, by omega, rfl⟩
            obtain ⟨y, hy⟩ : ∃ y, y = xs.getD j ByteArray.empty := ⟨_, rfl⟩
            rw [← hy] at hcell2 hts2 hlt2
            have HLT2 := Lib.hid hlt2
            clear hy hxj hlt2
            have q0 : (0 : Int) ≤ j := by omega
            have q1 : (j : Int) < n := by omega
            by_cases hE : y = x
            · have hE2 := str_eq_true hE
              have HE := Lib.hid hE
              clear hE
              go_wp2_with fail
              go_quiet (fail)
              go_wp2_with fail
              go_ret
              refine ⟨ret_bool (decide_eq_false (fun h => ?_)).symm, Drawn0.below (Drawn0.step ⟨⟨_, rfl⟩⟩ _)⟩
              have h3 := nodup_take xs (k + 1) h.2
              rw [hts.out, nodup_snoc] at h3
              exact h3.2 (HE.out ▸ HLT2.out)
            · have hE2 := str_eq_false hE
              have HE := Lib.hid hE
              clear hE
              go_wp2_with fail
              go_quiet (fail)
              go_wp2_with fail
              go_roundg (k - (j + 1))
              case measure => have := HG2.out; omega
              case rel => exact ⟨j + 1, by go_num, ⟨by have := HG2.out; omega, by rw [hts2.out, List.mem_append, List.mem_singleton]; rintro (h | h); exact HALL2.out h; exact HE.out h.symm⟩, ⟨⟨_, rfl⟩⟩⟩
          · obtain rfl : j = k := by have := HG2.out; omega
            go_wp2_with fail
            go_roundg (n - (j + 1))
            case measure => have := HG.out; omega
            case rel => exact ⟨j + 1, by go_num, ⟨by have := HG.out; omega, fun y hy => by
              rw [hts.out, List.mem_append, List.mem_singleton] at hy
              rcases hy with h | h
              · exact HALL.out y h
              · rw [h]; exact HNO.out, by rw [hts.out, nodup_snoc]; exact ⟨HND.out, HALL2.out⟩⟩, ⟨⟨_, rfl⟩⟩⟩
      · rw [decide_eq_false hno]
        have HNO := Lib.hid hno
        clear hno
        go_wp2_with fail
        go_ret
        exact ⟨ret_bool (decide_eq_false (fun h => HNO.out (h.1 x hmem.out))).symm, Drawn0.below ⟨⟨_, rfl⟩⟩⟩
    · have hxs : xs.take k = xs := List.take_of_length_le (by rw [HN.out]; omega)
      rw [hxs] at HALL HND
      clear hxs
      go_wp2_with fail
      go_ret
      exact ⟨ret_bool (decide_eq_true (show NamesOk xs from ⟨HALL.out, HND.out⟩)).symm, Drawn0.below ⟨⟨_, rfl⟩⟩⟩
end Go.Proofs.Ytcmgdieeclninaa
