/- The walk of same. -/
import Derived.Test.YtpegcdnkefljdaaB1
set_option linter.unusedVariables false
set_option linter.unusedSimpArgs false
namespace Go.Proofs.Ytpegcdnkefljdaa
open Go.RowKit Go.Proofs.YtpegcdnkefljdaaW.PrintWords
theorem str_at {w : World} {A : Option Addr} {n : Nat} {xs : List ByteArray} (h : Kd.string.C w A n xs) (k : Nat) (hk : k < n) :
    ∃ ad, A = some ad ∧ w.cell? (ad.add k) = some (.string (xs.getD k ByteArray.empty)) := by
  obtain ⟨ad, e, hc⟩ := Kd.at_string h (k : Int) (by omega) (by omega)
  exact ⟨ad, e, by simpa [rdOf] using hc⟩
theorem list_eq_of {xs ys : List ByteArray} (n : Nat) (hx : xs.length = n) (hy : ys.length = n) (h : ∀ j, j < n → xs.getD j ByteArray.empty = ys.getD j ByteArray.empty) : xs = ys := by
  apply List.ext_getElem (by omega)
  intro i h1 h2
  have := h i (by omega)
  simpa [List.getD_eq_getElem?_getD, List.getElem?_eq_getElem h1, List.getElem?_eq_getElem h2] using this
set_option maxHeartbeats 2000000 in
theorem same_any (A B : Option Addr) (n m c c' : Nat) (xs ys : List ByteArray) (w : World) (hA : Kd.string.C w A n xs) (hB : Kd.string.C w B m ys) :
    Calls Try.prog 17 #[.slice A n c, .slice B m c'] w fun e w' => e = .returned (.bool (decide (xs = ys))) ∧ Drawn0 w w' := by
  have hn := hA.1
  have hn2 := hA.2.1
  have hm := hB.1
  have HA := Aside0.mk hA
  have HB := Aside0.mk hB
  have HN := Lib.hid hn
  have HM := Lib.hid hm
  clear hA hB hn hm
  by_cases hnm : n = m
  · subst hnm
    go_enter Try.func17, Try.ntmps17
    go_wp2
    go_loopg [5] n (fun gn v wr => ∃ k : Nat, v = .int .i64 k ∧ Aside0 (k ≤ n ∧ n - k ≤ gn ∧ ∀ j, j < k → xs.getD j ByteArray.empty = ys.getD j ByteArray.empty) ∧ Drawn0 w wr)
    case atStart => exact ⟨0, rfl, ⟨⟨Nat.zero_le _, Nat.le_refl _, fun j h => absurd h (Nat.not_lt_zero _)⟩⟩, Drawn0.refl _⟩
    case round =>
      obtain ⟨k, rfl, ⟨hk, hg, hall⟩, ⟨nq, rfl⟩⟩ := hrel
      have HALL := Lib.hid hall
      clear hall
      by_cases hlt : k < n
      · obtain ⟨ad, rfl, ha⟩ := str_at HA.out k hlt
        obtain ⟨bd, rfl, hb⟩ := str_at HB.out k hlt
        obtain ⟨x, hx⟩ : ∃ x, x = xs.getD k ByteArray.empty := ⟨_, rfl⟩
        obtain ⟨y, hy⟩ : ∃ y, y = ys.getD k ByteArray.empty := ⟨_, rfl⟩
        rw [← hx] at ha
        rw [← hy] at hb
        have HX := Lib.hid hx
        have HY := Lib.hid hy
        clear hx hy
        have p0 : (0 : Int) ≤ k := by omega
        have p1 : (k : Int) < n := by omega
        by_cases hE : x = y
        · have hE2 := str_eq_true hE
          have HE := Lib.hid hE
          clear hE
          go_wp2
          go_quiet (fail)
          go_wp2
          go_roundg (n - (k + 1))
          case measure => omega
          case rel => exact ⟨k + 1, by go_num, ⟨⟨by omega, Nat.le_refl _, fun j hj => by
            rcases Nat.lt_succ_iff_lt_or_eq.1 hj with h | h
            · exact HALL.out j h
            · rw [h, ← HX.out, ← HY.out]; exact HE.out⟩⟩, ⟨⟨_, rfl⟩⟩⟩
        · have hE2 := str_eq_false hE
          have HE := Lib.hid hE
          clear hE
          go_wp2
          go_quiet (fail)
          go_wp2
          go_ret
          exact ⟨ret_bool (decide_eq_false (fun h => HE.out (by rw [HX.out, HY.out, h]))).symm, Drawn0.step ⟨⟨_, rfl⟩⟩ _⟩
      · go_wp2
        go_ret
        exact ⟨ret_bool (decide_eq_true (list_eq_of n HN.out HM.out (fun j hj => HALL.out j (by omega)))).symm, ⟨⟨_, rfl⟩⟩⟩
  · have hb : ((n : Int) == m) = false := by rw [beq_eq_false_iff_ne]; omega
    go_enter Try.func17, Try.ntmps17
    go_wp2
    go_ret
    exact ⟨ret_bool (decide_eq_false (fun h => hnm (by rw [← HN.out, ← HM.out, h]))).symm, Drawn0.refl _⟩
end Go.Proofs.Ytpegcdnkefljdaa
