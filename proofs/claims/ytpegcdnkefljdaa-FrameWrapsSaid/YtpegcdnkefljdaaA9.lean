/- The walk of the reference's Read. -/
import Derived.Test.YtpegcdnkefljdaaA8
set_option linter.unusedVariables false
set_option linter.unusedSimpArgs false
namespace Go.Proofs.Ytpegcdnkefljdaa
open Go.RowKit Go.Proofs.YtpegcdnkefljdaaW.PrintWords
theorem str_eq_true {a b : ByteArray} (h : a = b) : (a.toList == b.toList) = true := by rw [h]; simp
theorem str_eq_false {a b : ByteArray} (h : a ≠ b) : (a.toList == b.toList) = false := by
  rw [beq_eq_false_iff_ne]
  intro e
  rw [ByteArray.toList_eq, ByteArray.toList_eq] at e
  exact h (ba_ext e)
theorem szN_bytes (s : ByteArray) (a : Nat) (h0 : a < s.size) (h1 : a + 1 < s.size) : ((s[a].toNat : Int) + 256 * (s[a + 1].toNat : Int)) = (szN s a : Nat) := by
  have : (szB s a).data.toList = [s[a], s[a + 1]] := by
    have e1 : szB s a = s.extract a (a + 1) ++ s.extract (a + 1) (a + 2) := extract_split s a (a + 1) (a + 2) (by omega) (by omega)
    have one : ∀ j (hj : j < s.size), (s.extract j (j + 1)).data.toList = [s[j]] := by
      intro j hj
      simp only [ByteArray.data_extract, Array.toList_extract, List.extract_eq_take_drop]
      rw [show j + 1 - j = 1 from by omega, List.drop_eq_getElem_cons (by simpa using hj)]
      rfl
    rw [e1]
    simp only [ByteArray.data_append, Array.toList_append]
    rw [one a h0, one (a + 1) h1]; rfl
  rw [szN, this]
  simp only [numL]
  omega
set_option maxHeartbeats 2000000 in
theorem readref_any (s : ByteArray) (at_ : Int) (w : World) (hs : s.size ≤ 4294967296) :
    Calls Try.prog 14 #[.string s, .int .i64 at_] w fun e w' => e = .returned (readV s at_) ∧ Below w.heap.size w w' := by
  by_cases h0 : at_ < 0
  · go_enter Try.func14, Try.ntmps14
    go_wp2_with fail
    go_ret3
    exact ⟨by rw [readV, if_pos (.inl h0)]; rfl, Below.refl _ _⟩
  · by_cases h1 : (s.size : Int) < at_
    · go_enter Try.func14, Try.ntmps14
      go_wp2_with fail
      go_ret3
      exact ⟨by rw [readV, if_pos (.inr h1)]; rfl, Below.refl _ _⟩
    · obtain ⟨a, rfl⟩ : ∃ a : Nat, at_ = a := ⟨at_.toNat, by omega⟩
      have hv : readV s a = if whole s a then .tuple #[.string (dtB s a (szN s a)), .int .i64 ((a + 2 + 4 + szN s a : Nat) : Int), .int .i64 0]
          else .tuple #[.string ⟨#[]⟩, .int .i64 0, .int .i64 50] := by
        rw [readV, if_neg (by omega)]; rfl
      have HV := Lib.hid hv
      clear hv
      by_cases h6 : (s.size : Int) - a < 6
      · go_enter Try.func14, Try.ntmps14
        go_wp2_with fail
        go_ret3
        exact ⟨by rw [HV.out, if_neg (fun h => by have := h.1; omega)]; rfl, Below.refl _ _⟩
      · have i0 : 0 ≤ (a : Int) := by omega
        have i1 : (a : Int) < s.size := by omega
        have i2 : IntKind.i64.wrap ((a : Int) + 1) = (a : Int) + 1 := IntWalk.i64_in _ (by omega)
        have i3 : (0 : Int) ≤ (a : Int) + 1 := by omega
        have i4 : (a : Int) + 1 < s.size := by omega
        have i5 : ((a : Int) + 1).toNat = a + 1 := by omega
        obtain ⟨n, hn⟩ : ∃ n, n = szN s a := ⟨_, rfl⟩
        have hn2 : n < 65536 := by rw [hn]; exact szN_lt s a
        obtain ⟨x0, hx0⟩ : ∃ x0 : Int, ∀ h : a < s.size, ((s[a]'h).toNat : Int) = x0 := ⟨(s[a].toNat : Int), fun _ => rfl⟩
        obtain ⟨x1, hx1⟩ : ∃ x1 : Int, ∀ h : a + 1 < s.size, ((s[a + 1]'h).toNat : Int) = x1 := ⟨(s[a + 1].toNat : Int), fun _ => rfl⟩
        have b0 : 0 ≤ x0 ∧ x0 ≤ 255 := by rw [← hx0 (by omega)]; have := s[a].toNat_lt; omega
        have b1 : 0 ≤ x1 ∧ x1 ≤ 255 := by rw [← hx1 (by omega)]; have := s[a + 1].toNat_lt; omega
        obtain ⟨b00, b01⟩ := b0
        obtain ⟨b10, b11⟩ := b1
        have hval : x0 + 256 * x1 = n := by rw [hn, ← szN_bytes s a (by omega) (by omega), hx0, hx1]
        have w0 : IntKind.i64.wrap x0 = x0 := IntWalk.i64_in _ (by omega)
        have w1 : IntKind.i64.wrap x1 = x1 := IntWalk.i64_in _ (by omega)
        have w2 : IntKind.i64.wrap (256 * x1) = 256 * x1 := IntWalk.i64_in _ (by omega)
        have w3 : IntKind.i64.wrap (x0 + 256 * x1) = n := by rw [IntWalk.i64_in _ (by omega), hval]
        have HVAL := Lib.hid hval
        clear hval
        have HN := Lib.hid hn
        clear hn
        by_cases hR : (s.size : Int) - a - 6 < n
        · go_enter Try.func14, Try.ntmps14
          go_wp2_with fail
          go_quiet (fail)
          go_wp2_with fail
          go_ret3
          exact ⟨by rw [HV.out, if_neg (fun h => by have := h.2.2.1; rw [← HN.out] at this; omega)]; rfl, pw_below_drewN (Below.refl _ _) _⟩
        · go_enter Try.func14, Try.ntmps14
          go_wp2_with fail
          go_quiet (fail)
          clear w0 w1 w2 w3 i2 i5
          clear hx0 hx1
          have j0 : 0 ≤ (a : Int) + 6 := by omega
          have j1 : (a : Int) + 6 ≤ a + 6 + n := by omega
          have j3 : (a : Int) ≤ a + 6 + n := by omega
          have j2 : (a : Int) + 6 + n ≤ s.size := by omega
          go_wp2_with fail
          obtain ⟨d, hd⟩ : ∃ d, d = dtB s a n := ⟨_, rfl⟩
          rw [show s.extract (a + 6) (a + 6 + n) = d from hd.symm]
          have hds : d.size = n := by rw [hd, dtB, ByteArray.size_extract]; omega
          have HD := Lib.hid hd
          clear hd
          by_cases hL : n ≤ 4096
          · refine (wrapref_any d _ (by omega)).mono ?_
            rintro e w1 ⟨rfl, hb⟩
            have hb1 : Below w.heap.size w w1 := below_then (pw_below_drewN (Below.refl _ _) nq) (Nat.le_refl _) hb
            obtain ⟨t, ht⟩ : ∃ t, t = wrapB d := ⟨_, rfl⟩
            rw [← ht]
            have HT := Lib.hid ht
            clear ht hds
            have hiff := Lib.hid (whole_ref s a (by omega) (by rw [← HN.out]; omega))
            by_cases hE : t = s.extract a (a + 6 + n)
            · have hE2 := str_eq_true hE
              have HE := Lib.hid hE
              clear hE
              go_wp2_with fail
              go_ret3
              exact ⟨by rw [HV.out, if_pos (hiff.out.2 (by rw [← HN.out, ← HD.out, ← HT.out]; exact ⟨hL, HE.out⟩)), ← HN.out, ← HD.out]; rfl, hb1⟩
            · have hE2 := str_eq_false hE
              have HE := Lib.hid hE
              clear hE
              go_wp2_with fail
              go_ret3
              exact ⟨by rw [HV.out, if_neg (fun h => HE.out (by have := (hiff.out.1 h).2; rw [← HN.out, ← HD.out, ← HT.out] at this; exact this))]; rfl, hb1⟩
          · refine (wrapref_long d _ (by omega) (by omega)).mono ?_
            rintro e w1 ⟨rfl, hb⟩
            have hb1 : Below w.heap.size w w1 := below_then (pw_below_drewN (Below.refl _ _) nq) (Nat.le_refl _) hb
            go_wp2_with fail
            go_ret3
            exact ⟨by rw [HV.out, if_neg (fun h => by have := h.2.1; rw [← HN.out] at this; omega)]; rfl, hb1⟩
end Go.Proofs.Ytpegcdnkefljdaa
