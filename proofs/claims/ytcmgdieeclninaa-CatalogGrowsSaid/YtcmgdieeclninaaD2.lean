/- Layer 8: the walks of typed, in, named and what they call. -/
import Derived.Test.YtcmgdieeclninaaRows
import Derived.Test.YtcmgdieeclninaaD1
import Derived.Lib.Hide
set_option linter.unusedVariables false
set_option linter.unusedSimpArgs false
namespace Go.Proofs.Ytcmgdieeclninaa
open Go.RowKit Go.Proofs.YtcmgdieeclninaaW.PrintWords
theorem ret_bool {a b : Bool} (h : a = b) : Ending.returned (.bool a) = .returned (.bool b) := by rw [h]
theorem val_i64 {a b : Int} (h : a = b) : Value.int .i64 a = .int .i64 b := by rw [h]
/-- The end of a walk over tests: the two truths are one. -/
theorem ret_iff {a : Bool} {p : Prop} [Decidable p] (h : a = true ↔ p) : Ending.returned (.bool a) = .returned (.bool (decide p)) := by
  rw [show a = decide p from by rw [Bool.eq_iff_iff, h, decide_eq_true_iff]]
set_option maxHeartbeats 400000 in
theorem typed_any (n : Int) (w : World) :
    Calls Try.prog 69 #[.int .i64 n] w fun e w' => e = .returned (.bool (decide (TypeOk n))) ∧ w' = w := by
  go_enter Try.func69, Try.ntmps69
  go_wp2
  all_goals
    go_ret
    exact ⟨ret_iff (by unfold TypeOk; simp; try omega), rfl⟩
/-- A rune that no name has. -/
def badR (r : Int) : Prop := r ≠ 95 ∧ (r < 48 ∨ 57 < r) ∧ (r < 97 ∨ 122 < r)
instance (r : Int) : Decidable (badR r) := by unfold badR; infer_instance
set_option maxHeartbeats 400000 in
theorem bad_any (r : Int) (w : World) :
    Calls Try.prog 97 #[.int .i32 r] w fun e w' => e = .returned (.bool (decide (badR r))) ∧ w' = w := by
  go_enter Try.func97, Try.ntmps97
  go_wp2
  all_goals
    go_ret
    exact ⟨ret_iff (by unfold badR; simp; try omega), rfl⟩
set_option maxHeartbeats 400000 in
theorem in_any (n a b : Int) (w : World) :
    Calls Try.prog 81 #[.int .i64 n, .int .i64 a, .int .i64 b] w fun e w' => e = .returned (.bool (decide (a ≤ n ∧ n ≤ b))) ∧ w' = w := by
  by_cases h1 : a ≤ n
  · by_cases h2 : n ≤ b
    · have h3 := decide_eq_true h1
      have h4 := decide_eq_true h2
      go_enter Try.func81, Try.ntmps81
      go_wp2
      go_ret
      exact ⟨ret_bool (by simp [h1, h2]), rfl⟩
    · have h3 := decide_eq_true h1
      have h4 := decide_eq_false h2
      go_enter Try.func81, Try.ntmps81
      go_wp2
      go_ret
      exact ⟨ret_bool (by simp [h1, h2]), rfl⟩
  · have h3 := decide_eq_false h1
    go_enter Try.func81, Try.ntmps81
    go_wp2
    go_ret
    exact ⟨ret_bool (by simp [h1]), rfl⟩
theorem byte_getD (s : ByteArray) (j : Nat) (h : j < s.size) : s[j] = s.data.toList.getD j 0 := by
  have hl : j < s.data.toList.length := by simpa using h
  rw [List.getD, List.getElem?_eq_getElem hl]
  rfl
theorem mem_getD (s : ByteArray) (j : Nat) (h : j < s.size) : s.data.toList.getD j 0 ∈ s.data.toList := by
  have hl : j < s.data.toList.length := by simpa using h
  rw [List.getD, List.getElem?_eq_getElem hl]
  exact List.getElem_mem hl
set_option maxHeartbeats 1000000 in
theorem sfunc_any (s : ByteArray) (w : World) (hs : s.size ≤ 16) :
    Calls Try.prog 102 #[.string s, .func (.func 97) #[] #[], .bool true] w fun e w' => ∃ n : Int, e = .returned (.int .i64 n) ∧ (0 ≤ n ↔ ∃ b ∈ s.data.toList, ¬ nbB b) ∧ Below w.heap.size w w' := by
  go_enter Try.func102, Try.ntmps102
  go_wp2
  go_loopg [] (s.size + 1) (fun gn wr => ∃ k : Nat, Aside0 (k ≤ s.size ∧ s.size + 1 - k ≤ gn ∧ ∀ j, j < k → nbB (s.data.toList.getD j 0)) ∧ wr = w.iter s k)
  case atStart => exact ⟨0, ⟨⟨Nat.zero_le _, Nat.le_refl _, fun j h => absurd h (Nat.not_lt_zero _)⟩⟩, rfl⟩
  case round =>
    obtain ⟨k, ⟨hk, hg, hall⟩, rfl⟩ := hrel
    have HALL := Lib.hid hall
    clear hall
    by_cases hlt : k < s.size
    · have hbd : s[k] = s.data.toList.getD k 0 := byte_getD s k hlt
      by_cases ha : (s[k]'hlt).toNat < 128
      · have hn := run_next_ascii (P := Try.prog) w s k 0 hlt ha
        obtain ⟨x, hx⟩ : ∃ x, x = (s[k]'hlt).toNat := ⟨_, rfl⟩
        rw [← hx] at hn
        have HX := Lib.hid hx
        have HBD := Lib.hid hbd
        clear hx ha hbd
        go_wp2_with fail
        refine (bad_any _ _).mono ?_
        rintro e w1 ⟨rfl, hw1⟩
        obtain rfl := hw1.symm
        by_cases hb : badR (x : Int)
        · rw [decide_eq_true hb]
          clear hn
          go_wp2_with fail
          go_ret
          refine ⟨(k : Int), rfl, ⟨fun _ => ⟨_, mem_getD s k hlt, fun h => ?_⟩, fun _ => by omega⟩, below_alloc (Below.refl _ _) _⟩
          rw [← HBD.out] at h
          unfold nbB at h
          rw [← HX.out] at h
          unfold badR at hb
          omega
        · rw [decide_eq_false hb]
          clear hn
          go_wp2_with fail
          go_roundg (s.size + 1 - (k + 1))
          case measure => omega
          case rel => exact ⟨k + 1, ⟨⟨by omega, Nat.le_refl _, fun j hj => by
            rcases Nat.lt_succ_iff_lt_or_eq.1 hj with h | h
            · exact HALL.out j h
            · rw [h, ← HBD.out]
              unfold nbB
              rw [← HX.out]
              unfold badR at hb
              omega⟩⟩, rfl⟩
      · have hn := run_next_any (P := Try.prog) w s k 0 hlt
        have hd := (decode_high s k hlt (by omega)).1
        obtain ⟨x, hx⟩ : ∃ x, x = (Utf8.decode s k).1 := ⟨_, rfl⟩
        rw [← hx] at hn hd
        have HBD := Lib.hid hbd
        have HA := Lib.hid ha
        clear hx ha hbd
        go_wp2_with fail
        refine (bad_any _ _).mono ?_
        rintro e w1 ⟨rfl, hw1⟩
        obtain rfl := hw1.symm
        rw [decide_eq_true (show badR (x : Int) from by unfold badR; omega)]
        clear hn
        go_wp2_with fail
        go_ret
        refine ⟨(k : Int), rfl, ⟨fun _ => ⟨_, mem_getD s k hlt, fun h => ?_⟩, fun _ => by omega⟩, below_alloc (Below.refl _ _) _⟩
        rw [← HBD.out] at h
        have h2 := HA.out
        unfold nbB at h
        omega
    · have hn := run_next_end (P := Try.prog) w s k 0 hlt
      go_wp2
      go_ret
      refine ⟨-1, rfl, ⟨fun h => by omega, fun ⟨b, hb, hn⟩ => ?_⟩, below_alloc (Below.refl _ _) _⟩
      obtain ⟨j, hj, rfl⟩ := List.mem_iff_getElem.1 hb
      have hj2 : j < k := by have : s.data.toList.length = s.size := by simp
                             omega
      exact absurd (by have := HALL.out j hj2; simpa [List.getD, List.getElem?_eq_getElem hj] using this) hn
set_option maxHeartbeats 1000000 in
theorem contf_any (s : ByteArray) (w : World) (hs : s.size ≤ 16) :
    Calls Try.prog 96 #[.string s, .func (.func 97) #[] #[]] w fun e w' => e = .returned (.bool (decide (∃ b ∈ s.data.toList, ¬ nbB b))) ∧ Below w.heap.size w w' := by
  go_enter Try.func96, Try.ntmps96
  go_wp2_with fail
  refine Calls.mono (R := fun e w' => ∃ n : Int, e = .returned (.int .i64 n) ∧ (0 ≤ n ↔ ∃ b ∈ s.data.toList, ¬ nbB b) ∧ Below w.heap.size w w') ?_ ?_
  · go_enter Try.func101, Try.ntmps101
    go_wp2_with fail
    refine (sfunc_any s _ hs).mono ?_
    rintro e w1 ⟨n, rfl, hn, hb⟩
    have HN := Lib.hid hn
    clear hn
    go_wp2_with fail
    go_ret
    exact ⟨n, rfl, HN.out, hb⟩
  · rintro e w1 ⟨n, rfl, hn, hb⟩
    have HN := Lib.hid hn
    clear hn
    go_wp2_with fail
    go_ret
    exact ⟨ret_bool (by rw [decide_eq_decide]; exact HN.out), hb⟩
theorem str_eq_true {a b : ByteArray} (h : a = b) : (a.toList == b.toList) = true := by rw [h]; simp
theorem ba_ext {a b : ByteArray} (h : a.data.toList = b.data.toList) : a = b := by
  cases a; cases b
  simp only [ByteArray.mk.injEq]
  exact Array.toList_inj.1 h
theorem str_eq_false {a b : ByteArray} (h : a ≠ b) : (a.toList == b.toList) = false := by
  rw [beq_eq_false_iff_ne]
  intro e
  rw [ByteArray.toList_eq, ByteArray.toList_eq] at e
  exact h (ba_ext e)
theorem ba_len (a : ByteArray) : a.data.toList.length = a.size := by simp
theorem str_nil_true {a : ByteArray} (h : a.size = 0) : (a.toList == []) = true := by
  rw [ByteArray.toList_eq, List.eq_nil_of_length_eq_zero (show a.data.toList.length = 0 by rw [ba_len]; exact h)]; rfl
theorem str_nil_false {a : ByteArray} (h : 0 < a.size) : (a.toList == []) = false := by
  rw [beq_eq_false_iff_ne, ByteArray.toList_eq]
  intro e
  have h2 : a.size = 0 := by
    have := congrArg List.length e
    rw [ba_len] at this
    exact this
  omega
set_option maxHeartbeats 1000000 in
theorem named_any (s : ByteArray) (w : World) :
    Calls Try.prog 68 #[.string s] w fun e w' => e = .returned (.bool (decide (NameOk s))) ∧ Below w.heap.size w w' := by
  by_cases h0 : s.size = 0
  · have h1 := str_nil_true h0
    have H0 := Lib.hid h0
    clear h0
    go_enter Try.func68, Try.ntmps68
    go_wp2_with fail
    go_ret
    exact ⟨ret_bool (decide_eq_false (fun h => by have := h.1; have := H0.out; omega)).symm, Below.refl _ _⟩
  · have hp : 0 < s.size := by omega
    have h1 := str_nil_false hp
    by_cases h16 : 16 < s.size
    · go_enter Try.func68, Try.ntmps68
      go_wp2_with fail
      go_ret
      exact ⟨ret_bool (decide_eq_false (fun h => by have := h.2.1; omega)).symm, Below.refl _ _⟩
    · obtain ⟨x, hx⟩ : ∃ x : Int, ∀ h : 0 < s.size, ((s[0]'h).toNat : Int) = x := ⟨(s[0].toNat : Int), fun _ => rfl⟩
      have hxd : x = ((s.data.toList.getD 0 0).toNat : Int) := by rw [← hx hp, byte_getD s 0 hp]
      have HX := Lib.hid hxd
      clear hxd
      by_cases ha : x < 97
      · go_enter Try.func68, Try.ntmps68
        go_wp2_with fail
        go_ret
        exact ⟨ret_bool (decide_eq_false (fun h => by have := h.2.2.1; have := HX.out; omega)).symm, Below.refl _ _⟩
      · by_cases hz : 122 < x
        · go_enter Try.func68, Try.ntmps68
          go_wp2_with fail
          go_ret
          exact ⟨ret_bool (decide_eq_false (fun h => by have := h.2.2.2.1; have := HX.out; omega)).symm, Below.refl _ _⟩
        · go_enter Try.func68, Try.ntmps68
          go_wp2_with fail
          refine (contf_any s _ (by omega)).mono ?_
          rintro e w1 ⟨rfl, hb⟩
          obtain ⟨b, hbb⟩ : ∃ b, b = decide (∃ b ∈ s.data.toList, ¬ nbB b) := ⟨_, rfl⟩
          rw [← hbb]
          have HB := Lib.hid hbb
          clear hbb
          go_wp2_with fail
          go_ret
          refine ⟨ret_bool ?_, hb⟩
          rw [HB.out, Bool.eq_iff_iff]
          simp only [Bool.not_eq_true', decide_eq_false_iff_not, decide_eq_true_iff]
          have := HX.out
          constructor
          · intro h
            exact ⟨by omega, by omega, by omega, by omega, fun b hb => Decidable.byContradiction fun hn => h ⟨b, hb, hn⟩⟩
          · rintro h ⟨b, hb, hn⟩
            exact hn (h.2.2.2.2 b hb)
end Go.Proofs.Ytcmgdieeclninaa
