/- The walk of next. -/
import Derived.Test.YtpegcdnkefljdaaA4
set_option linter.unusedVariables false
set_option linter.unusedSimpArgs false
namespace Go.Proofs.Ytpegcdnkefljdaa
open Go.RowKit Go.Proofs.YtpegcdnkefljdaaW.PrintWords
instance (s : ByteArray) (a : Nat) : Decidable (whole s a) := by unfold whole; infer_instance
def nextD (s : ByteArray) (a : Nat) : ByteArray := if whole s a then dtB s a (szN s a) else ⟨#[]⟩
def nextTo (s : ByteArray) (a : Nat) : Nat := if whole s a then a + 2 + 4 + szN s a else a
def NextPost (g : Nat) (s : ByteArray) (a : Nat) (w : World) (e : Ending) (w' : World) : Prop :=
  e = .returned (.tuple #[.string (nextD s a), .bool (decide (whole s a))]) ∧ Only w w' g ∧ Cur w' g s (nextTo s a : Nat)
theorem next_no {g : Nat} {s : ByteArray} {a : Nat} {w w' : World} (h : ¬ whole s a) (ho : Only w w' g) (hc : Cur w' g s a) :
    NextPost g s a w (.returned (.tuple #[.string ⟨#[]⟩, .bool false])) w' := by
  refine ⟨?_, ho, ?_⟩
  · rw [nextD, if_neg h, decide_eq_false h]
  · rw [nextTo, if_neg h]; exact hc
theorem next_yes {g : Nat} {s : ByteArray} {a : Nat} {w w' : World} (h : whole s a) (ho : Only w w' g) (hc : Cur w' g s ((a + 2 + 4 + szN s a : Nat) : Int)) :
    NextPost g s a w (.returned (.tuple #[.string (dtB s a (szN s a)), .bool true])) w' := by
  refine ⟨?_, ho, ?_⟩
  · rw [nextD, if_pos h, decide_eq_true h]
  · rw [nextTo, if_pos h]; exact hc
set_option maxHeartbeats 2000000 in
theorem next_any (g : Nat) (s : ByteArray) (at_ : Nat) (w : World) (hc : Cur w g s at_) (hs : s.size ≤ 4294967296) (ha : at_ ≤ s.size) :
    Calls Try.prog 19 #[.pointer (some ⟨g, 0, none⟩)] w (NextPost g s at_ w) := by
  have c1 := hc.cell1
  have f1 := hc.free 1
  go_enter Try.func19, Try.ntmps19
  go_wp2_with fail
  refine (has_any g s at_ 6 _ hc hs ha (by omega)).mono ?_
  rintro e w1 ⟨rfl, ho1, hc1⟩
  by_cases h : 6 ≤ s.size - at_
  · rw [show decide (6 ≤ s.size - at_) = true from decide_eq_true h]
    go_wp2_with fail
    refine (take_any g s at_ 2 _ hc1 hs (by omega)).mono ?_
    rintro e w2 ⟨rfl, ho2, hc2⟩
    obtain ⟨z, hz⟩ : ∃ z, z = szB s at_ := ⟨_, rfl⟩
    rw [show s.extract at_ (at_ + 2) = z from hz.symm]
    have hz2 : z.size ≤ 2 := by rw [hz]; exact szB_size s at_
    have HZ := Lib.hid hz
    clear hz
    go_wp2_with fail
    refine (take_any g s (at_ + 2) 4 _ hc2 hs (by omega)).mono ?_
    rintro e w3 ⟨rfl, ho3, hc3⟩
    go_wp2_with fail
    refine (number_any (smB s at_) _ (smB_size s at_)).mono ?_
    rintro e w4 ⟨rfl, rfl⟩
    obtain ⟨m, hm⟩ : ∃ m, m = smN s at_ := ⟨_, rfl⟩
    rw [show numL (smB s at_).data.toList = m from hm.symm]
    have hm2 : m < 4294967296 := by rw [hm]; exact smN_lt s at_
    have HM := Lib.hid hm
    clear hm
    go_wp2_with fail
    refine (number_any z _ (by omega)).mono ?_
    rintro e w5 ⟨rfl, rfl⟩
    obtain ⟨n, hn⟩ : ∃ n, n = szN s at_ := ⟨_, rfl⟩
    rw [show numL z.data.toList = n from by rw [hn, HZ.out]; rfl]
    have hn2 : n < 65536 := by rw [hn]; exact szN_lt s at_
    have HN := Lib.hid hn
    clear hn
    have k1 := hc3.cell1
    have k2 := hc3.free 1
    by_cases hN : n ≤ 4096
    · go_wp2_with fail
      refine (has_any g s (at_ + 2 + 4) n _ hc3 hs (by omega) (by omega)).mono ?_
      rintro e w6 ⟨rfl, ho6, hc6⟩
      have k3 := hc6.cell1
      have k4 := hc6.free 1
      by_cases hR : n ≤ s.size - (at_ + 2 + 4)
      · rw [show decide (n ≤ s.size - (at_ + 2 + 4)) = true from decide_eq_true hR]
        go_wp2_with fail
        refine (take_any g s (at_ + 2 + 4) n _ hc6 hs (by omega)).mono ?_
        rintro e w7 ⟨rfl, ho7, hc7⟩
        obtain ⟨d, hd⟩ : ∃ d, d = dtB s at_ n := ⟨_, rfl⟩
        rw [show s.extract (at_ + 2 + 4) (at_ + 2 + 4 + n) = d from hd.symm]
        have hd2 : d.size ≤ 65536 := by rw [hd]; have := dtB_size s at_ n; omega
        have HD := Lib.hid hd
        clear hd
        have hsz : z.size + d.size ≤ 9223372036854775807 := by omega
        go_wp2_with fail
        refine (sum_prog _ _ (by rw [append_size']; omega)).mono ?_
        rintro e w8 ⟨rfl, rfl⟩
        obtain ⟨c, hcc⟩ : ∃ c, c = crc (z ++ d).data.toList := ⟨_, rfl⟩
        rw [← hcc]
        have hc2 : c < 4294967296 := by rw [hcc]; exact crc_lt _
        have HC := Lib.hid hcc
        clear hcc
        have k5 := hc7.cell1
        have k6 := hc7.free 1
        have hall := (((((ho1.trans ho2).trans ho3).trans ho6).trans ho7))
        by_cases hE : c = m
        · have hE2 : ((c : Int) == m) = true := by rw [beq_iff_eq]; omega
          have HE := Lib.hid hE
          clear hE
          go_wp2_with fail
          go_ret2
          rw [HD.out, HN.out]
          refine next_yes ⟨h, HN.out ▸ hN, HN.out ▸ hR, ?_⟩ hall (by rw [← HN.out]; exact hc7)
          rw [← HN.out, ← HD.out, ← HZ.out, ← HC.out, ← HM.out]
          exact HE.out
        · have hE2 : ((c : Int) == m) = false := by rw [beq_eq_false_iff_ne]; omega
          go_wp2_with fail
          go_ret2
          refine next_no (fun hw => hE ?_) (hall.set _ _) (hc7.set _)
          have := hw.2.2.2
          rw [← HN.out, ← HD.out, ← HZ.out, ← HC.out, ← HM.out] at this
          exact this
      · rw [show decide (n ≤ s.size - (at_ + 2 + 4)) = false from decide_eq_false hR]
        go_wp2_with fail
        go_ret2
        exact next_no (fun hw => hR (HN.out ▸ hw.2.2.1)) (((((ho1.trans ho2).trans ho3).trans ho6).set _ _)) (hc6.set _)
    · go_wp2_with fail
      go_ret2
      exact next_no (fun hw => hN (HN.out ▸ hw.2.1)) ((((ho1.trans ho2).trans ho3).set _ _)) (hc3.set _)
  · rw [show decide (6 ≤ s.size - at_) = false from decide_eq_false h]
    have f2 := hc1.free 1
    have d1 := hc1.cell1
    go_wp2_with fail
    go_ret2
    exact next_no (fun hw => h hw.1) (ho1.set _ _) (hc1.set _)
end Go.Proofs.Ytpegcdnkefljdaa
