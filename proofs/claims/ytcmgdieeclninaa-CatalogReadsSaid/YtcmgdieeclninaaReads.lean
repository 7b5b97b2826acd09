/- Layer 08: the reference's Encode and Decode, and the law Reads: D46, D51, D52, D53, D55, D62 joined. No condition. -/
import Derived.Test.YtcmgdieeclninaaD45
import Derived.Test.YtcmgdieeclninaaD47
import Derived.Test.YtcmgdieeclninaaD54
import Derived.Test.YtcmgdieeclninaaD38
import Derived.Test.YtcmgdieeclninaaD49
/- Layer 08: D46 ref reader number -/
set_option linter.unusedVariables false
set_option linter.unusedSimpArgs false
namespace Go.Proofs.Ytcmgdieeclninaa
open Go.RowKit Go.Proofs.YtcmgdieeclninaaW.PrintWords
/-- The reference's reader: the text, the place. -/
def QS (w : World) (rb : Nat) (s : ByteArray) (A : Nat) : Prop := w.heap[rb]? = some (.cells #[.string s, .int .i64 A] 94 (0, 0))
theorem QS.mod {w w' : World} {rb : Nat} {s : ByteArray} {A : Nat} {S : Nat → Prop} (h : QS w rb s A) (k : Mod w w' S) (hn : ¬ S rb) : QS w' rb s A := blk_mod h k hn
theorem QS.below {w w' : World} {rb : Nat} {s : ByteArray} {A : Nat} (h : QS w rb s A) (k : Below w.heap.size w w') : QS w' rb s A := blk_below h k
theorem QS.set {w : World} {rb : Nat} {s : ByteArray} {A : Nat} (h : QS w rb s A) (B : Nat) (n : Int) (hn : n = B) : QS (w.setCell ⟨rb, 1, none⟩ (.int .i64 n)) rb s B := by subst hn; exact blk_put h 1 (.int .i64 B) rfl
theorem QS.drewN {w : World} {rb : Nat} {s : ByteArray} {A : Nat} (h : QS w rb s A) (n : Nat) : QS (w.drewN n) rb s A := h
/-- What a lenient function tells. -/
def QOut {α : Type} (enc : α → List Int) (ok : α → Prop) (val : Nat → World → Value → α → Prop) (more : Nat) (rb : Nat) (s : ByteArray) (A : Nat) (w : World) (e : Ending) (w' : World) : Prop :=
  ∃ (v : Value) (x : α) (A' : Nat), e = .returned v ∧ val w.heap.size w' v x ∧ QS w' rb s A' ∧ Mod w w' (fun i => i = rb) ∧ A' ≤ max A (s.size + 1) + more ∧ Cp enc ok ((bytesOf s).drop A) x ((bytesOf s).drop A')
def lInt (_ : Nat) (_ : World) (v : Value) (n : Int) : Prop := v = .int .i64 n ∧ okZ n
def lStr (_ : Nat) (_ : World) (v : Value) (t : ByteArray) : Prop := v = .string t ∧ t.size ≤ 140737488351232
theorem drop_range (s : ByteArray) (A : Nat) : ∀ b ∈ (bytesOf s).drop A, 0 ≤ b ∧ b ≤ 255 := fun b hb => bytes_range s b (List.mem_of_mem_drop hb)
theorem cp_ends {l : List Int} {k : Nat} (he : EndsAt l k) (hr : ∀ b ∈ l, 0 ≤ b ∧ b ≤ 255) : Cp wZ okZ l ((numAt l k : Nat) : Int) (l.drop (k + 1)) := by
  intro y r hy hl
  obtain ⟨i, h1, h2, h3, h4, h5, h6⟩ := ends_of_wN y.toNat r
  rw [wZ] at hl
  rw [← hl] at h1 h2 h3
  have hik := he.unique h1
  subst hik
  exact ⟨by rw [h2]; exact Int.toNat_of_nonneg hy.1, h3⟩
theorem cp_open {l l' : List Int} {k : Nat} {n : Int} (hk : k = 4 ∨ l.length ≤ k) (hall : ∀ j, j < k → 128 ≤ l.getD j 0) : Cp wZ okZ l n l' := by
  intro y r hy hl
  exfalso
  obtain ⟨i, h1, h2, h3, h4, h5, h6⟩ := ends_of_wN y.toNat r
  rw [wZ] at hl
  rw [← hl] at h1
  have h7 := h5 3 (by have : (128 : Nat) ^ 4 = 268435456 := by decide
                      have := hy.2
                      omega)
  have h9 := hall i (by have := h1.1; omega)
  have := h1.2.2
  omega
theorem drop_getD (l : List Int) (A k : Nat) : (l.drop A).getD k 0 = l.getD (A + k) 0 := by simp [List.getD, List.getElem?_drop]
set_option maxRecDepth 100000 in
set_option maxHeartbeats 8000000 in
theorem qnum_any (rb : Nat) (s : ByteArray) (A0 : Nat) (w : World) (h : QS w rb s A0) (hs : s.size ≤ 140737488351232) (hA : A0 ≤ 1125899906842624) : Calls Try.prog 93 #[.pointer (some ⟨rb, 0, none⟩)] w (QOut wZ okZ lInt 4 rb s A0 w) := by
  have HQ := Aside0.mk (And.intro h (Mod.refl w (fun i => i = rb)))
  clear h
  go_enter Try.func93, Try.ntmps93
  go_wp2_with fail
  go_loopg [3, 4, 5] 5 (fun gn nv pv i wr => ∃ k a p : Nat, nv = .int .i64 a ∧ pv = .int .i64 p ∧ i = .int .i64 k ∧ Aside0 (k + gn = 5 ∧ a = acc ((bytesOf s).drop A0) k ∧ p = 128 ^ k ∧ k ≤ 4 ∧ ∀ j, j < k → 128 ≤ ((bytesOf s).drop A0).getD j 0) ∧ Aside0 (QS wr rb s (A0 + k) ∧ Mod w wr (fun i => i = rb)))
  case atStart => exact ⟨0, 0, 1, rfl, rfl, rfl, ⟨rfl, rfl, rfl, by omega, fun j hj => by omega⟩, HQ⟩
  case round =>
    obtain ⟨k, a, p, rfl, rfl, rfl, ⟨hgn, ha, hp, hk4, hall⟩, hQ⟩ := hrel
    clear HQ
    have HGN := Lib.hid hgn
    have HA := Lib.hid ha
    have HALL := Lib.hid hall
    have hacc : a < 128 ^ k := by rw [ha]; exact acc_lt _ _
    obtain ⟨B, hB⟩ : ∃ B, B = A0 + k := ⟨_, rfl⟩
    rw [← hB] at hQ
    have HB := Lib.hid hB
    have hB2 : B ≤ 1125899906842700 := by omega
    clear hgn ha hall hB
    have f0 : wr.cell? ⟨rb, 0, none⟩ = some (.string s) := blk_cell hQ.out.1 0
    have f1 : wr.cell? ⟨rb, 1, none⟩ = some (.int .i64 B) := blk_cell hQ.out.1 1
    have k1 : wr.frozen? ⟨rb, 1, none⟩ = false := blk_frozen hQ.out.1 1
    have hkc : k = 0 ∨ k = 1 ∨ k = 2 ∨ k = 3 ∨ k = 4 := by omega
    rcases hkc with rfl | rfl | rfl | rfl | rfl
    · obtain rfl : p = 1 := by simpa using hp
      have hacc2 : a < 1 := hacc
      clear hp hacc
      by_cases hlt : B < s.size
      · obtain ⟨y, hy⟩ : ∃ y : Int, ∀ h : B < s.size, ((s[B]'h).toNat : Int) = y := ⟨(s[B].toNat : Int), fun _ => rfl⟩
        have hyd : ((bytesOf s).drop A0).getD 0 0 = y := by rw [drop_getD, ← HB.out, bytes_at s B hlt, hy hlt]
        have hyr : 0 ≤ y ∧ y ≤ 255 := by rw [← hy hlt]; have := (s[B]'hlt).toNat_lt; omega
        have HYD := Lib.hid hyd
        obtain ⟨x, hx⟩ : ∃ x : Nat, x = y.toNat % 128 := ⟨_, rfl⟩
        have hrem : y.tmod 128 = (x : Int) := by rw [Int.tmod_eq_emod_of_nonneg hyr.1]; omega
        have hrem2 : y % 128 = (x : Int) := by omega
        have hx127 : x ≤ 127 := by omega
        have HX := Lib.hid hx
        have p0 : (0 : Int) ≤ (B : Int) := by omega
        have p1 : (B : Int) < (s.size : Int) := by omega
        clear hyd hx
        have hlen : 0 < ((bytesOf s).drop A0).length := by rw [List.length_drop, bytesOf_length]; have := HB.out; omega
        have HLEN := Lib.hid hlen
        clear hlen
        by_cases hb128 : y < 128
        · go_wp2_with fail
          go_quiet (fail)
          go_wp2_with fail
          go_quiet (fail)
          go_wp2_with fail
          go_ret
          have hend : EndsAt ((bytesOf s).drop A0) 0 := ⟨HLEN.out, HALL.out, by rw [HYD.out]; exact hb128⟩
          have hnum : numAt ((bytesOf s).drop A0) 0 = a + 1 * x := by
            unfold numAt
            rw [← HA.out, HYD.out, HX.out, Nat.mod_eq_of_lt (by omega), Nat.mul_comm]
          have hlt2 := numAt_lt _ _ hend (fun b hb => (drop_range s A0 b hb).1)
          have hcp := cp_ends hend (drop_range s A0)
          rw [hnum] at hcp hlt2
          rw [List.drop_drop] at hcp
          refine ⟨_, ((a + 1 * x : Nat) : Int), B + 1, by first | rfl | (go_num; done) | (refine congrArg Ending.returned (congrArg (Value.int .i64) ?_); omega), ⟨rfl, by unfold okZ; omega⟩, (QS.drewN hQ.out.1 _).set (B + 1) _ (by omega), (Mod.drewN hQ.out.2 _).trans (mod_setCell _ _ _ _), by have := HB.out; omega, ?_⟩
          have he : B + 1 = A0 + (0 + 1) := by have := HB.out; omega
          rw [he]
          exact hcp
        · go_wp2_with fail
          go_quiet (fail)
          go_wp2_with fail
          go_quiet (fail)
          go_wp2_with fail
          go_roundg (5 - 1)
          case measure => have := HGN.out; omega
          case rel => exact ⟨1, a + 1 * x, 128, by first | rfl | (go_num; done) | (refine congrArg Ending.returned (congrArg (Value.int .i64) ?_); omega), by first | rfl | (go_num; done) | (refine congrArg Ending.returned (congrArg (Value.int .i64) ?_); omega), by first | rfl | (go_num; done) | (refine congrArg Ending.returned (congrArg (Value.int .i64) ?_); omega), ⟨by omega, by rw [acc, ← HA.out, HYD.out, HX.out, Nat.mul_comm], by decide, by omega, fun j hj => by
            rcases Nat.lt_succ_iff_lt_or_eq.1 hj with h | h
            · exact HALL.out j h
            · rw [h, HYD.out]; omega⟩, ⟨(QS.drewN hQ.out.1 _).set (A0 + 1) _ (by have := HB.out; omega), (Mod.drewN hQ.out.2 _).trans (mod_setCell _ _ _ _)⟩⟩
      · have p1 : (s.size : Int) ≤ (B : Int) := by omega
        have p2 : decide ((B : Int) < (s.size : Int)) = false := decide_eq_false (by omega)
        go_wp2_with fail
        go_quiet (fail)
        go_wp2_with fail
        go_ret
        refine ⟨_, (a : Int), B + 1, by first | rfl | (go_num; done) | (refine congrArg Ending.returned (congrArg (Value.int .i64) ?_); omega), ⟨rfl, by unfold okZ; omega⟩, (QS.drewN hQ.out.1 _).set (B + 1) _ (by omega), (Mod.drewN hQ.out.2 _).trans (mod_setCell _ _ _ _), by have := HB.out; omega, cp_open (.inr (by rw [List.length_drop, bytesOf_length]; have := HB.out; omega)) HALL.out⟩
    · obtain rfl : p = 128 := by simpa using hp
      have hacc2 : a < 128 := hacc
      clear hp hacc
      by_cases hlt : B < s.size
      · obtain ⟨y, hy⟩ : ∃ y : Int, ∀ h : B < s.size, ((s[B]'h).toNat : Int) = y := ⟨(s[B].toNat : Int), fun _ => rfl⟩
        have hyd : ((bytesOf s).drop A0).getD 1 0 = y := by rw [drop_getD, ← HB.out, bytes_at s B hlt, hy hlt]
        have hyr : 0 ≤ y ∧ y ≤ 255 := by rw [← hy hlt]; have := (s[B]'hlt).toNat_lt; omega
        have HYD := Lib.hid hyd
        obtain ⟨x, hx⟩ : ∃ x : Nat, x = y.toNat % 128 := ⟨_, rfl⟩
        have hrem : y.tmod 128 = (x : Int) := by rw [Int.tmod_eq_emod_of_nonneg hyr.1]; omega
        have hrem2 : y % 128 = (x : Int) := by omega
        have hx127 : x ≤ 127 := by omega
        have HX := Lib.hid hx
        have p0 : (0 : Int) ≤ (B : Int) := by omega
        have p1 : (B : Int) < (s.size : Int) := by omega
        clear hyd hx
        have hlen : 1 < ((bytesOf s).drop A0).length := by rw [List.length_drop, bytesOf_length]; have := HB.out; omega
        have HLEN := Lib.hid hlen
        clear hlen
        by_cases hb128 : y < 128
        · go_wp2_with fail
          go_quiet (fail)
          go_wp2_with fail
          go_quiet (fail)
          go_wp2_with fail
          go_ret
          have hend : EndsAt ((bytesOf s).drop A0) 1 := ⟨HLEN.out, HALL.out, by rw [HYD.out]; exact hb128⟩
          have hnum : numAt ((bytesOf s).drop A0) 1 = a + 128 * x := by
            unfold numAt
            rw [← HA.out, HYD.out, HX.out, Nat.mod_eq_of_lt (by omega), Nat.mul_comm]
          have hlt2 := numAt_lt _ _ hend (fun b hb => (drop_range s A0 b hb).1)
          have hcp := cp_ends hend (drop_range s A0)
          rw [hnum] at hcp hlt2
          rw [List.drop_drop] at hcp
          refine ⟨_, ((a + 128 * x : Nat) : Int), B + 1, by first | rfl | (go_num; done) | (refine congrArg Ending.returned (congrArg (Value.int .i64) ?_); omega), ⟨rfl, by unfold okZ; omega⟩, (QS.drewN hQ.out.1 _).set (B + 1) _ (by omega), (Mod.drewN hQ.out.2 _).trans (mod_setCell _ _ _ _), by have := HB.out; omega, ?_⟩
          have he : B + 1 = A0 + (1 + 1) := by have := HB.out; omega
          rw [he]
          exact hcp
        · go_wp2_with fail
          go_quiet (fail)
          go_wp2_with fail
          go_quiet (fail)
          go_wp2_with fail
          go_roundg (5 - 2)
          case measure => have := HGN.out; omega
          case rel => exact ⟨2, a + 128 * x, 16384, by first | rfl | (go_num; done) | (refine congrArg Ending.returned (congrArg (Value.int .i64) ?_); omega), by first | rfl | (go_num; done) | (refine congrArg Ending.returned (congrArg (Value.int .i64) ?_); omega), by first | rfl | (go_num; done) | (refine congrArg Ending.returned (congrArg (Value.int .i64) ?_); omega), ⟨by omega, by rw [acc, ← HA.out, HYD.out, HX.out, Nat.mul_comm], by decide, by omega, fun j hj => by
            rcases Nat.lt_succ_iff_lt_or_eq.1 hj with h | h
            · exact HALL.out j h
            · rw [h, HYD.out]; omega⟩, ⟨(QS.drewN hQ.out.1 _).set (A0 + 2) _ (by have := HB.out; omega), (Mod.drewN hQ.out.2 _).trans (mod_setCell _ _ _ _)⟩⟩
      · have p1 : (s.size : Int) ≤ (B : Int) := by omega
        have p2 : decide ((B : Int) < (s.size : Int)) = false := decide_eq_false (by omega)
        go_wp2_with fail
        go_quiet (fail)
        go_wp2_with fail
        go_ret
        refine ⟨_, (a : Int), B + 1, by first | rfl | (go_num; done) | (refine congrArg Ending.returned (congrArg (Value.int .i64) ?_); omega), ⟨rfl, by unfold okZ; omega⟩, (QS.drewN hQ.out.1 _).set (B + 1) _ (by omega), (Mod.drewN hQ.out.2 _).trans (mod_setCell _ _ _ _), by have := HB.out; omega, cp_open (.inr (by rw [List.length_drop, bytesOf_length]; have := HB.out; omega)) HALL.out⟩
    · obtain rfl : p = 16384 := by simpa using hp
      have hacc2 : a < 16384 := hacc
      clear hp hacc
      by_cases hlt : B < s.size
      · obtain ⟨y, hy⟩ : ∃ y : Int, ∀ h : B < s.size, ((s[B]'h).toNat : Int) = y := ⟨(s[B].toNat : Int), fun _ => rfl⟩
        have hyd : ((bytesOf s).drop A0).getD 2 0 = y := by rw [drop_getD, ← HB.out, bytes_at s B hlt, hy hlt]
        have hyr : 0 ≤ y ∧ y ≤ 255 := by rw [← hy hlt]; have := (s[B]'hlt).toNat_lt; omega
        have HYD := Lib.hid hyd
        obtain ⟨x, hx⟩ : ∃ x : Nat, x = y.toNat % 128 := ⟨_, rfl⟩
        have hrem : y.tmod 128 = (x : Int) := by rw [Int.tmod_eq_emod_of_nonneg hyr.1]; omega
        have hrem2 : y % 128 = (x : Int) := by omega
        have hx127 : x ≤ 127 := by omega
        have HX := Lib.hid hx
        have p0 : (0 : Int) ≤ (B : Int) := by omega
        have p1 : (B : Int) < (s.size : Int) := by omega
        clear hyd hx
        have hlen : 2 < ((bytesOf s).drop A0).length := by rw [List.length_drop, bytesOf_length]; have := HB.out; omega
        have HLEN := Lib.hid hlen
        clear hlen
        by_cases hb128 : y < 128
        · go_wp2_with fail
          go_quiet (fail)
          go_wp2_with fail
          go_quiet (fail)
          go_wp2_with fail
          go_ret
          have hend : EndsAt ((bytesOf s).drop A0) 2 := ⟨HLEN.out, HALL.out, by rw [HYD.out]; exact hb128⟩
          have hnum : numAt ((bytesOf s).drop A0) 2 = a + 16384 * x := by
            unfold numAt
            rw [← HA.out, HYD.out, HX.out, Nat.mod_eq_of_lt (by omega), Nat.mul_comm]
          have hlt2 := numAt_lt _ _ hend (fun b hb => (drop_range s A0 b hb).1)
          have hcp := cp_ends hend (drop_range s A0)
          rw [hnum] at hcp hlt2
          rw [List.drop_drop] at hcp
          refine ⟨_, ((a + 16384 * x : Nat) : Int), B + 1, by first | rfl | (go_num; done) | (refine congrArg Ending.returned (congrArg (Value.int .i64) ?_); omega), ⟨rfl, by unfold okZ; omega⟩, (QS.drewN hQ.out.1 _).set (B + 1) _ (by omega), (Mod.drewN hQ.out.2 _).trans (mod_setCell _ _ _ _), by have := HB.out; omega, ?_⟩
          have he : B + 1 = A0 + (2 + 1) := by have := HB.out; omega
          rw [he]
          exact hcp
        · go_wp2_with fail
          go_quiet (fail)
          go_wp2_with fail
          go_quiet (fail)
          go_wp2_with fail
          go_roundg (5 - 3)
          case measure => have := HGN.out; omega
          case rel => exact ⟨3, a + 16384 * x, 2097152, by first | rfl | (go_num; done) | (refine congrArg Ending.returned (congrArg (Value.int .i64) ?_); omega), by first | rfl | (go_num; done) | (refine congrArg Ending.returned (congrArg (Value.int .i64) ?_); omega), by first | rfl | (go_num; done) | (refine congrArg Ending.returned (congrArg (Value.int .i64) ?_); omega), ⟨by omega, by rw [acc, ← HA.out, HYD.out, HX.out, Nat.mul_comm], by decide, by omega, fun j hj => by
            rcases Nat.lt_succ_iff_lt_or_eq.1 hj with h | h
            · exact HALL.out j h
            · rw [h, HYD.out]; omega⟩, ⟨(QS.drewN hQ.out.1 _).set (A0 + 3) _ (by have := HB.out; omega), (Mod.drewN hQ.out.2 _).trans (mod_setCell _ _ _ _)⟩⟩
      · have p1 : (s.size : Int) ≤ (B : Int) := by omega
        have p2 : decide ((B : Int) < (s.size : Int)) = false := decide_eq_false (by omega)
        go_wp2_with fail
        go_quiet (fail)
        go_wp2_with fail
        go_ret
        refine ⟨_, (a : Int), B + 1, by first | rfl | (go_num; done) | (refine congrArg Ending.returned (congrArg (Value.int .i64) ?_); omega), ⟨rfl, by unfold okZ; omega⟩, (QS.drewN hQ.out.1 _).set (B + 1) _ (by omega), (Mod.drewN hQ.out.2 _).trans (mod_setCell _ _ _ _), by have := HB.out; omega, cp_open (.inr (by rw [List.length_drop, bytesOf_length]; have := HB.out; omega)) HALL.out⟩
    · obtain rfl : p = 2097152 := by simpa using hp
      have hacc2 : a < 2097152 := hacc
      clear hp hacc
      by_cases hlt : B < s.size
      · obtain ⟨y, hy⟩ : ∃ y : Int, ∀ h : B < s.size, ((s[B]'h).toNat : Int) = y := ⟨(s[B].toNat : Int), fun _ => rfl⟩
        have hyd : ((bytesOf s).drop A0).getD 3 0 = y := by rw [drop_getD, ← HB.out, bytes_at s B hlt, hy hlt]
        have hyr : 0 ≤ y ∧ y ≤ 255 := by rw [← hy hlt]; have := (s[B]'hlt).toNat_lt; omega
        have HYD := Lib.hid hyd
        obtain ⟨x, hx⟩ : ∃ x : Nat, x = y.toNat % 128 := ⟨_, rfl⟩
        have hrem : y.tmod 128 = (x : Int) := by rw [Int.tmod_eq_emod_of_nonneg hyr.1]; omega
        have hrem2 : y % 128 = (x : Int) := by omega
        have hx127 : x ≤ 127 := by omega
        have HX := Lib.hid hx
        have p0 : (0 : Int) ≤ (B : Int) := by omega
        have p1 : (B : Int) < (s.size : Int) := by omega
        clear hyd hx
        have hlen : 3 < ((bytesOf s).drop A0).length := by rw [List.length_drop, bytesOf_length]; have := HB.out; omega
        have HLEN := Lib.hid hlen
        clear hlen
        by_cases hb128 : y < 128
        · go_wp2_with fail
          go_quiet (fail)
          go_wp2_with fail
          go_quiet (fail)
          go_wp2_with fail
          go_ret
          have hend : EndsAt ((bytesOf s).drop A0) 3 := ⟨HLEN.out, HALL.out, by rw [HYD.out]; exact hb128⟩
          have hnum : numAt ((bytesOf s).drop A0) 3 = a + 2097152 * x := by
            unfold numAt
            rw [← HA.out, HYD.out, HX.out, Nat.mod_eq_of_lt (by omega), Nat.mul_comm]
          have hlt2 := numAt_lt _ _ hend (fun b hb => (drop_range s A0 b hb).1)
          have hcp := cp_ends hend (drop_range s A0)
          rw [hnum] at hcp hlt2
          rw [List.drop_drop] at hcp
          refine ⟨_, ((a + 2097152 * x : Nat) : Int), B + 1, by first | rfl | (go_num; done) | (refine congrArg Ending.returned (congrArg (Value.int .i64) ?_); omega), ⟨rfl, by unfold okZ; omega⟩, (QS.drewN hQ.out.1 _).set (B + 1) _ (by omega), (Mod.drewN hQ.out.2 _).trans (mod_setCell _ _ _ _), by have := HB.out; omega, ?_⟩
          have he : B + 1 = A0 + (3 + 1) := by have := HB.out; omega
          rw [he]
          exact hcp
        · go_wp2_with fail
          go_quiet (fail)
          go_wp2_with fail
          go_quiet (fail)
          go_wp2_with fail
          go_roundg (5 - 4)
          case measure => have := HGN.out; omega
          case rel => exact ⟨4, a + 2097152 * x, 268435456, by first | rfl | (go_num; done) | (refine congrArg Ending.returned (congrArg (Value.int .i64) ?_); omega), by first | rfl | (go_num; done) | (refine congrArg Ending.returned (congrArg (Value.int .i64) ?_); omega), by first | rfl | (go_num; done) | (refine congrArg Ending.returned (congrArg (Value.int .i64) ?_); omega), ⟨by omega, by rw [acc, ← HA.out, HYD.out, HX.out, Nat.mul_comm], by decide, by omega, fun j hj => by
            rcases Nat.lt_succ_iff_lt_or_eq.1 hj with h | h
            · exact HALL.out j h
            · rw [h, HYD.out]; omega⟩, ⟨(QS.drewN hQ.out.1 _).set (A0 + 4) _ (by have := HB.out; omega), (Mod.drewN hQ.out.2 _).trans (mod_setCell _ _ _ _)⟩⟩
      · have p1 : (s.size : Int) ≤ (B : Int) := by omega
        have p2 : decide ((B : Int) < (s.size : Int)) = false := decide_eq_false (by omega)
        go_wp2_with fail
        go_quiet (fail)
        go_wp2_with fail
        go_ret
        refine ⟨_, (a : Int), B + 1, by first | rfl | (go_num; done) | (refine congrArg Ending.returned (congrArg (Value.int .i64) ?_); omega), ⟨rfl, by unfold okZ; omega⟩, (QS.drewN hQ.out.1 _).set (B + 1) _ (by omega), (Mod.drewN hQ.out.2 _).trans (mod_setCell _ _ _ _), by have := HB.out; omega, cp_open (.inr (by rw [List.length_drop, bytesOf_length]; have := HB.out; omega)) HALL.out⟩
    · go_wp2_with fail
      go_ret
      refine ⟨_, (a : Int), B, rfl, ⟨rfl, by unfold okZ; have : (128 : Nat) ^ 4 = 268435456 := by decide
                                             omega⟩, hQ.out.1, hQ.out.2, by have := HB.out; omega, cp_open (.inl rfl) HALL.out⟩
end Go.Proofs.Ytcmgdieeclninaa

/- Layer 08: D51 ref reader text, many, numbers -/
set_option linter.unusedVariables false
set_option linter.unusedSimpArgs false
namespace Go.Proofs.Ytcmgdieeclninaa
open Go.RowKit Go.Proofs.YtcmgdieeclninaaW.PrintWords
theorem bytes_slice (s : ByteArray) (a n : Nat) : bytesOf (s.extract a (a + n)) = ((bytesOf s).drop a).take n := by
  unfold bytesOf
  rw [Lib.extract_data, Nat.add_sub_cancel_left, List.map_take, List.map_drop]
theorem drop_over {s : ByteArray} {n : Nat} (h : s.size ≤ n) : (bytesOf s).drop n = [] := List.drop_eq_nil_of_le (by rw [bytesOf_length]; exact h)
set_option maxRecDepth 100000 in
set_option maxHeartbeats 4000000 in
theorem qtext_any (rb : Nat) (s : ByteArray) (A0 : Nat) (w : World) (h : QS w rb s A0) (hs : s.size ≤ 140737488351232) (hA : A0 ≤ 1125899906842624) : Calls Try.prog 94 #[.pointer (some ⟨rb, 0, none⟩)] w (QOut wT okT lStr 4 rb s A0 w) := by
  go_enter Try.func94, Try.ntmps94
  go_wp2_with fail
  refine (qnum_any rb s A0 w h hs hA).mono ?_
  rintro e w1 ⟨v1, n, B, rfl, ⟨rfl, hn⟩, hQ, hM, hB, hcp⟩
  have f0 : w1.cell? ⟨rb, 0, none⟩ = some (.string s) := blk_cell hQ 0
  have f1 : w1.cell? ⟨rb, 1, none⟩ = some (.int .i64 B) := blk_cell hQ 1
  have k1 : w1.frozen? ⟨rb, 1, none⟩ = false := blk_frozen hQ 1
  have HQ := Aside0.mk (And.intro hQ hM)
  have HCP := Lib.hid hcp
  have HB := Lib.hid hB
  obtain ⟨hn0, hn1⟩ := hn
  obtain ⟨m, rfl⟩ := Int.eq_ofNat_of_zero_le hn0
  have hm : m < 268435456 := by omega
  have hB2 : B ≤ 1125899906842630 := by omega
  clear hQ hM hcp hB h hn0 hn1
  by_cases h1 : s.size < B
  · have p1 : (s.size : Int) < (B : Int) := by omega
    go_wp2_with fail
    go_quiet (fail)
    go_wp2_with fail
    go_ret
    refine ⟨_, ⟨#[]⟩, s.size + 1, rfl, ⟨rfl, by decide⟩, (QS.drewN HQ.out.1 _).set (s.size + 1) _ (by omega), (Mod.drewN HQ.out.2 _).trans (mod_setCell _ _ _ _), by omega, ?_⟩
    intro y r hy hl
    rw [wT, List.append_assoc] at hl
    obtain ⟨e1, e2⟩ := HCP.out (y.size : Int) (bytesOf y ++ r) ⟨by omega, by unfold okT at hy; omega⟩ (by simpa [wZ] using hl)
    rw [drop_over (by omega)] at e2
    obtain ⟨e3, e4⟩ := List.append_eq_nil_iff.1 e2.symm
    refine ⟨(bytesOf_inj (by rw [e3]; rfl)).symm, ?_⟩
    rw [e4, drop_over (by omega)]
  · have p1 : ¬ (s.size : Int) < (B : Int) := by omega
    by_cases h2 : s.size - B < m
    · have p2 : (s.size : Int) - (B : Int) < (m : Int) := by omega
      go_wp2_with fail
      go_quiet (fail)
      go_wp2_with fail
      go_ret
      refine ⟨_, ⟨#[]⟩, s.size + 1, rfl, ⟨rfl, by decide⟩, (QS.drewN HQ.out.1 _).set (s.size + 1) _ (by omega), (Mod.drewN HQ.out.2 _).trans (mod_setCell _ _ _ _), by omega, ?_⟩
      intro y r hy hl
      exfalso
      rw [wT, List.append_assoc] at hl
      obtain ⟨e1, e2⟩ := HCP.out (y.size : Int) (bytesOf y ++ r) ⟨by omega, by unfold okT at hy; omega⟩ (by simpa [wZ] using hl)
      have e3 := congrArg List.length e2
      rw [List.length_drop, bytesOf_length, List.length_append, bytesOf_length] at e3
      omega
    · have p2 : ¬ (s.size : Int) - (B : Int) < (m : Int) := by omega
      have p3 : (B : Int) + (m : Int) ≤ (s.size : Int) := by omega
      have p4 : (0 : Int) ≤ (B : Int) := by omega
      have p5 : (B : Int) ≤ (B : Int) + (m : Int) := by omega
      go_wp2_with fail
      go_quiet (fail)
      go_wp2_with fail
      go_quiet (fail)
      go_wp2_with fail
      go_ret
      refine ⟨_, s.extract B (B + m), B + m, rfl, ⟨rfl, by rw [ByteArray.size_extract]; omega⟩, (QS.drewN HQ.out.1 _).set (B + m) _ (by omega), (Mod.drewN HQ.out.2 _).trans (mod_setCell _ _ _ _), by omega, ?_⟩
      intro y r hy hl
      rw [wT, List.append_assoc] at hl
      obtain ⟨e1, e2⟩ := HCP.out (y.size : Int) (bytesOf y ++ r) ⟨by omega, by unfold okT at hy; omega⟩ (by simpa [wZ] using hl)
      have e3 : m = y.size := by omega
      refine ⟨bytesOf_inj ?_, ?_⟩
      · rw [bytes_slice, e2, e3]
        exact List.take_left' (bytesOf_length y)
      · rw [← List.drop_drop, e2, e3]
        exact List.drop_left' (bytesOf_length y)
set_option maxRecDepth 100000 in
set_option maxHeartbeats 4000000 in
theorem qmany_any (most : Nat) (hmost : most ≤ 1000) (rb : Nat) (s : ByteArray) (A0 : Nat) (w : World) (h : QS w rb s A0) (hs : s.size ≤ 140737488351232) (hA : A0 ≤ 1125899906842624) :
    Calls Try.prog 63 #[.pointer (some ⟨rb, 0, none⟩), .int .i64 most] w (QOut wN (fun m => m < 268435456) (fun _ _ v m => v = .int .i64 ((min m most : Nat) : Int)) 4 rb s A0 w) := by
  go_enter Try.func63, Try.ntmps63
  go_wp2_with fail
  refine (qnum_any rb s A0 w h hs hA).mono ?_
  rintro e w1 ⟨v1, n, B, rfl, ⟨rfl, hn⟩, hQ, hM, hB, hcp⟩
  have hcp2 : Cp wN (fun m => m < 268435456) ((bytesOf s).drop A0) n.toNat ((bytesOf s).drop B) := hcp.map Int.toNat (fun m : Nat => (m : Int)) (fun y => rfl) (fun y hy => ⟨by omega, by omega⟩) (fun y _ => rfl)
  have HH := Aside0.mk (And.intro hQ (And.intro hM (And.intro hB hcp2)))
  obtain ⟨hn0, hn1⟩ := hn
  clear hQ hM hB hcp hcp2 h
  by_cases hm : (most : Int) < n
  · go_wp2_with fail
    go_ret
    exact ⟨.int .i64 most, n.toNat, B, rfl, by show Value.int .i64 _ = Value.int .i64 _; rw [Nat.min_eq_right (by omega)], HH.out.1, HH.out.2.1, HH.out.2.2.1, HH.out.2.2.2⟩
  · go_wp2_with fail
    go_ret
    exact ⟨.int .i64 n, n.toNat, B, rfl, by show Value.int .i64 _ = Value.int .i64 _; rw [Nat.min_eq_left (by omega), Int.toNat_of_nonneg hn0], HH.out.1, HH.out.2.1, HH.out.2.2.1, HH.out.2.2.2⟩
set_option maxRecDepth 100000 in
set_option maxHeartbeats 4000000 in
theorem qnums_any (rb : Nat) (s : ByteArray) (A0 : Nat) (w : World) (h : QS w rb s A0) (hs : s.size ≤ 140737488351232) (hA : A0 ≤ 1125899906840000) : Calls Try.prog 95 #[.pointer (some ⟨rb, 0, none⟩)] w (QOut wL okL vInts 36 rb s A0 w) := by
  have hlt := blk_lt h
  go_enter Try.func95, Try.ntmps95
  go_wp2_with fail
  refine (qmany_any 8 (by decide) rb s A0 w h hs (by omega)).mono ?_
  rintro e w1 ⟨v1, n0, A1, rfl, rfl, hQ1, hM1, hA1, hcp1⟩
  obtain ⟨n, hn⟩ : ∃ n, n = min n0 8 := ⟨_, rfl⟩
  have hn8 : n ≤ 8 := by omega
  rw [← hn]
  have hw1 : w.heap.size ≤ w1.heap.size := hM1.size
  have HM1 := Aside0.mk hM1
  have HCP := Lib.hid hcp1
  have HA1 := Lib.hid hA1
  have HQ1 := Aside0.mk hQ1
  have HN := Lib.hid hn
  clear hQ1 hM1 hA1 hcp1 hn h
  go_wp2_with fail
  go_loopg [3, 5] n (fun gn vv i wr => ∃ (vr : Value) (k A : Nat) (xs : List Int), vv = vr ∧ i = .int .i64 k ∧ Aside0 (k + gn = n ∧ xs.length = k ∧ A ≤ max A1 (s.size + 1) + 4 * k ∧ LCp wZ okZ ((bytesOf s).drop A1) xs ((bytesOf s).drop A)) ∧ Aside0 (QS wr rb s A ∧ Mod w1 wr (fun i => i = rb) ∧ (Kd.int .i64).R 3 wr w1.heap.size (fun q => w1.heap.size ≤ q) vr xs))
  case atStart => exact ⟨.slice none 0 0, 0, A1, [], rfl, rfl, ⟨by omega, rfl, by omega, LCp.start _ _ _⟩, ⟨HQ1.out, Mod.refl _ _, Kd.R_nil _ _ _ _ _⟩⟩
  case round =>
    obtain ⟨vr, k, A, xs, rfl, rfl, ⟨hgn, hxl, hA, hL⟩, hI⟩ := hrel
    obtain ⟨V, vc, hvs⟩ := Kd.R_slice hI.out.2.2
    subst hvs
    have HGN := Lib.hid hgn
    have HXL := Lib.hid hxl
    have HA := Lib.hid hA
    have HL := Lib.hid hL
    have hA1' := HA1.out
    have hAb : A ≤ 1125899906842624 := by omega
    have hxn : xs.length ≤ 8 := by omega
    have hkn : k ≤ n := by omega
    clear hgn hxl hA hL hA1'
    by_cases hlt2 : k < n
    · have p0 : (k : Int) < (n : Int) := by omega
      go_wp2_with fail
      refine (qnum_any rb s A wr hI.out.1 hs hAb).mono ?_
      rintro e w2 ⟨u2, x, B, rfl, ⟨rfl, hx⟩, hQ2, hM2, hB2, hcp2⟩
      have hR2 := Kd.R_step hI.out.2.2 (fun q hq hl => hM2.block q hl (fun he => by omega))
      have HR2 := Aside0.mk hR2
      have HQ2 := Aside0.mk hQ2
      have HM2 := Aside0.mk (hI.out.2.1.trans hM2)
      have HB2 := Lib.hid hB2
      have HCP2 := Lib.hid hcp2
      have hsz2 : w1.heap.size ≤ w2.heap.size := HM2.out.size
      clear hR2 hQ2 hM2 hB2 hcp2 hI
      go_wp2_with (at_builtin; refine Kd.R_append (Kd.int .i64) (w0 := w2) w1.heap.size rfl (.tmp 16) (.tmp 18) 27 3 _ 8 rfl Try.underlying27 info3b rfl (by decide) (by omega) (.slice V xs.length vc) xs x [.int .i64 x] (fun q => w1.heap.size ≤ q) (fun _ => False) rfl rfl ?aP (fun _ hk => hk.elim) ?aF ?aO ?aB ?aS ?aL ?_; (case aP => exact rfl); (case aF => exact (fun i hi => Nat.le_trans HM2.out.size hi)); (case aO => exact HR2.out); (case aB => exact Below.refl _ _); (case aS => exact HM2.out.size); (case aL => omega); intro v3 w3 ho3 hb3 hg3 hat3; have HO3 := Aside0.mk ho3; have HG3 := Aside0.mk (And.intro hg3 hat3); clear ho3 hb3 hg3 hat3)
      have hm3 : Mod w2 w3 (fun i => w1.heap.size ≤ i) := ⟨HG3.out.1.os, HG3.out.1.tape, HG3.out.1.output, HG3.out.1.size, fun i hi hn => HG3.out.1.block i hi (fun he => hn (HR2.out.1 i he.symm))⟩
      have hq3 := HQ2.out.mod hm3 (by have := blk_lt HQ1.out; omega)
      have hm13 := HM2.out.then_new hm3 (fun i hi hq => by omega)
      go_roundg (n - (k + 1))
      case measure => have := HGN.out; omega
      case rel => exact ⟨v3, k + 1, B, xs ++ [x], by go_num, by go_num, ⟨by have := HGN.out; omega, by rw [List.length_append, HXL.out]; rfl, by have := HA.out; have := HB2.out; omega, HL.out.step HCP2.out⟩, ⟨hq3, hm13, HO3.out⟩⟩
    · have p1 : ¬ (k : Int) < (n : Int) := by omega
      go_wp2_with fail
      go_ret
      have hkn2 : k = n := by omega
      refine ⟨_, xs, A, rfl, Kd.R_mono (Kd.R_lower hI.out.2.2 hw1) (fun _ _ => trivial), hI.out.1, HM1.out.trans hI.out.2.1, by have := HA.out; have := HA1.out; omega, ?_⟩
      exact LCp.done HCP.out HL.out (by rw [HXL.out, hkn2, HN.out]) (fun m hm => by omega)
end Go.Proofs.Ytcmgdieeclninaa

/- Layer 08: D52 ref reader table -/
set_option linter.unusedVariables false
set_option linter.unusedSimpArgs false
namespace Go.Proofs.Ytcmgdieeclninaa
open Go.RowKit Go.Proofs.YtcmgdieeclninaaW.PrintWords
/-- The reader, boxes of one's own. -/
structure LJ (w wr : World) (rb : Nat) (s : ByteArray) (A : Nat) (L : List (Nat × Array Value × TypeId)) : Prop where
  qs : QS wr rb s A
  md : Mod w wr (fun i => i = rb)
  lt : rb < w.heap.size
  box : ∀ p ∈ L, wr.heap[p.1]? = some (.cells p.2.1 p.2.2 (0, 0)) ∧ w.heap.size ≤ p.1
theorem LJ.start {w : World} {rb : Nat} {s : ByteArray} {A : Nat} (h : QS w rb s A) : LJ w w rb s A [] := ⟨h, Mod.refl _ _, blk_lt h, fun p hp => by simp at hp⟩
theorem LJ.alloc {w wr : World} {rb : Nat} {s : ByteArray} {A : Nat} {L : List (Nat × Array Value × TypeId)} (h : LJ w wr rb s A L) (cs : Array Value) (t : TypeId) : LJ w (wr.alloc (.cells cs t (0, 0))) rb s A ((wr.heap.size, cs, t) :: L) :=
  ⟨h.qs.below (below_alloc (Below.refl _ _) _), h.md.trans (Mod.of_below (below_alloc (Below.refl _ _) _)), h.lt, fun p hp => by
    rcases List.mem_cons.1 hp with rfl | hp
    · exact ⟨blk_alloc _ _, h.md.size⟩
    · exact ⟨blk_alloc' (h.box p hp).1, (h.box p hp).2⟩⟩
theorem LJ.read {w wr w' : World} {rb : Nat} {s : ByteArray} {A A' : Nat} {L : List (Nat × Array Value × TypeId)} (h : LJ w wr rb s A L) (hr : QS w' rb s A') (hm : Mod wr w' (fun i => i = rb)) : LJ w w' rb s A' L :=
  ⟨hr, h.md.trans hm, h.lt, fun p hp => ⟨blk_mod (h.box p hp).1 hm (fun he => by have := (h.box p hp).2; have := h.lt; omega), (h.box p hp).2⟩⟩
theorem LJ.turn {w wr w' : World} {rb g : Nat} {s : ByteArray} {A A' : Nat} {cs cs' : Array Value} {t : TypeId} {L : List (Nat × Array Value × TypeId)} (h : LJ w wr rb s A ((g, cs, t) :: L)) (hr : QS w' rb s A') (hm : Mod wr w' (fun i => i = rb ∨ i = g)) (hg : w'.heap[g]? = some (.cells cs' t (0, 0))) (hL : ∀ p ∈ L, p.1 ≠ g) : LJ w w' rb s A' ((g, cs', t) :: L) :=
  ⟨hr, h.md.then_new hm (fun i hi hq => by
    rcases hq with hq | hq
    · exact hq
    · have := (h.box _ List.mem_cons_self).2
      simp only at this
      omega), h.lt, fun p hp => by
    rcases List.mem_cons.1 hp with rfl | hp
    · exact ⟨hg, (h.box _ List.mem_cons_self).2⟩
    · have h1 := h.box p (List.mem_cons_of_mem _ hp)
      exact ⟨blk_mod h1.1 hm (fun hq => by
        rcases hq with hq | hq
        · have := h1.2; have := h.lt; omega
        · exact hL p hp hq), h1.2⟩⟩
theorem LJ.set {w wr : World} {rb g : Nat} {s : ByteArray} {A : Nat} {cs cs' : Array Value} {t : TypeId} {L : List (Nat × Array Value × TypeId)} (h : LJ w wr rb s A ((g, cs, t) :: L)) (i : Nat) (v : Value) (he : cs.setIfInBounds i v = cs') (hL : ∀ p ∈ L, p.1 ≠ g) : LJ w (wr.setCell ⟨g, i, none⟩ v) rb s A ((g, cs', t) :: L) := by
  have hgl := (h.box _ List.mem_cons_self).2
  simp only at hgl
  exact h.turn (blk_mod h.qs (mod_setCell wr g i v) (by have := h.lt; omega)) ((mod_setCell wr g i v).mono (fun j hj => .inr hj)) (blk_put (h.box _ List.mem_cons_self).1 i v he) hL
theorem LJ.hd {w wr : World} {rb g : Nat} {s : ByteArray} {A : Nat} {cs : Array Value} {t : TypeId} {L : List (Nat × Array Value × TypeId)} (h : LJ w wr rb s A ((g, cs, t) :: L)) : wr.heap[g]? = some (.cells cs t (0, 0)) := (h.box _ List.mem_cons_self).1
theorem LJ.at2 {w wr : World} {rb g : Nat} {s : ByteArray} {A : Nat} {cs : Array Value} {t : TypeId} {q : Nat × Array Value × TypeId} {L : List (Nat × Array Value × TypeId)} (h : LJ w wr rb s A (q :: (g, cs, t) :: L)) : wr.heap[g]? = some (.cells cs t (0, 0)) := (h.box _ (List.mem_cons_of_mem _ List.mem_cons_self)).1
theorem LJ.at3 {w wr : World} {rb g : Nat} {s : ByteArray} {A : Nat} {cs : Array Value} {t : TypeId} {q q2 : Nat × Array Value × TypeId} {L : List (Nat × Array Value × TypeId)} (h : LJ w wr rb s A (q :: q2 :: (g, cs, t) :: L)) : wr.heap[g]? = some (.cells cs t (0, 0)) := (h.box _ (List.mem_cons_of_mem _ (List.mem_cons_of_mem _ List.mem_cons_self))).1
/-- In a loop that fills a row of the box tb: the reader, the box, the row (the block gb is none of its). -/
structure CL {α : Type} (d : Kd α) (e rb tb T gb : Nat) (wS w : World) (cs : Array Value) (v : Value) (xs : List α) (s : ByteArray) (A : Nat) : Prop where
  qs : QS w rb s A
  tbx : w.heap[tb]? = some (.cells cs T (0, 0))
  row : d.R e w wS.heap.size (fun q => wS.heap.size ≤ q ∧ q ≠ gb) v xs
  md : Mod wS w (fun i => i = rb ∨ i = tb)
  lts : rb < wS.heap.size ∧ tb < wS.heap.size ∧ rb ≠ tb
theorem CL.start {α : Type} {d : Kd α} {e rb tb T gb : Nat} {wS : World} {cs : Array Value} {s : ByteArray} {A : Nat} (h : QS wS rb s A) (ht : wS.heap[tb]? = some (.cells cs T (0, 0))) (hne : rb ≠ tb) : CL d e rb tb T gb wS wS cs (.slice none 0 0) [] s A :=
  ⟨h, ht, Kd.R_nil _ _ _ _ _, Mod.refl _ _, blk_lt h, blk_lt ht, hne⟩
theorem CL.fresh {α : Type} {d : Kd α} {e rb tb T gb : Nat} {wS w : World} {cs : Array Value} {v : Value} {xs : List α} {s : ByteArray} {A : Nat} (h : CL d e rb tb T gb wS w cs v xs s A) (g2 : Nat) (hg : w.heap.size ≤ g2) : CL d e rb tb T g2 wS w cs v xs s A :=
  ⟨h.qs, h.tbx, Kd.R_mono (Kd.R_bound h.row) (fun q hq => ⟨hq.1.1, by have := hq.2.2.1; omega⟩), h.md, h.lts⟩
theorem CL.any {α : Type} {d : Kd α} {e rb tb T gb : Nat} {wS w : World} {cs : Array Value} {v : Value} {xs : List α} {s : ByteArray} {A : Nat} (h : CL d e rb tb T gb wS w cs v xs s A) : CL d e rb tb T rb wS w cs v xs s A :=
  ⟨h.qs, h.tbx, Kd.R_mono h.row (fun q hq => ⟨hq.1, by have := h.lts.1; have := hq.1; omega⟩), h.md, h.lts⟩
theorem CL.read {α : Type} {d : Kd α} {e rb tb T gb : Nat} {wS w w' : World} {cs : Array Value} {v : Value} {xs : List α} {s : ByteArray} {A A' : Nat} (h : CL d e rb tb T gb wS w cs v xs s A) (hr : QS w' rb s A') (hm : Mod w w' (fun i => i = rb)) : CL d e rb tb T gb wS w' cs v xs s A' :=
  ⟨hr, blk_mod h.tbx hm (fun he => h.lts.2.2 he.symm), Kd.R_step h.row (fun q hq hl => hm.block q hl (by have := h.lts.1; have := hq.1; omega)), h.md.trans (hm.mono (fun i hi => .inl hi)), h.lts⟩
theorem CL.below {α : Type} {d : Kd α} {e rb tb T gb : Nat} {wS w w' : World} {cs : Array Value} {v : Value} {xs : List α} {s : ByteArray} {A : Nat} (h : CL d e rb tb T gb wS w cs v xs s A) (hb : Below w.heap.size w w') : CL d e rb tb T gb wS w' cs v xs s A := h.read (h.qs.below hb) (Mod.of_below hb)
/-- A store into an item's box. -/
theorem CL.put {α : Type} {d : Kd α} {e rb tb T gb : Nat} {wS w : World} {cs : Array Value} {v : Value} {xs : List α} {s : ByteArray} {A : Nat} (h : CL d e rb tb T gb wS w cs v xs s A) (hg : wS.heap.size ≤ gb) (j : Nat) (u : Value) : CL d e rb tb T gb wS (w.setCell ⟨gb, j, none⟩ u) cs v xs s A := by
  have hm := mod_setCell w gb j u
  refine ⟨blk_mod h.qs hm (by have := h.lts.1; omega), blk_mod h.tbx hm (by have := h.lts.2.1; omega), Kd.R_step h.row (fun q hq hl => hm.block q hl hq.2), ?_, h.lts⟩
  exact h.md.then_new hm (fun i hi hq => by omega)
theorem CL.appended {α : Type} {d : Kd α} {e rb tb T gb : Nat} {wS w w' : World} {cs cs' : Array Value} {v v' : Value} {xs xs' : List α} {s : ByteArray} {A : Nat} (h : CL d e rb tb T gb wS w cs v xs s A) (hr : d.R e w' wS.heap.size (fun q => wS.heap.size ≤ q ∧ q ≠ gb) v' xs') (hg : w.grownBy w' v.ownBlock) (j : Nat) (hj : cs.setIfInBounds j v' = cs') :
    CL d e rb tb T rb wS (w'.setCell ⟨tb, j, none⟩ v') cs' v' xs' s A ∧ w'.heap[tb]? = some (.cells cs T (0, 0)) := by
  have hm : Mod w w' (fun i => wS.heap.size ≤ i) := ⟨hg.os, hg.tape, hg.output, hg.size, fun i hi hn => hg.block i hi (fun he => hn (h.row.1 i he.symm).1)⟩
  have ht : w'.heap[tb]? = some (.cells cs T (0, 0)) := blk_mod h.tbx hm (by have := h.lts.2.1; omega)
  have hms := mod_setCell w' tb j v'
  refine ⟨⟨?_, blk_put ht j v' hj, ?_, ?_, h.lts⟩, ht⟩
  · exact blk_mod (blk_mod h.qs hm (by have := h.lts.1; omega)) hms h.lts.2.2
  · exact Kd.R_step (Kd.R_mono hr (fun q hq => ⟨hq.1, by have := h.lts.1; have := hq.1; omega⟩)) (fun q hq hl => hms.block q hl (by have := h.lts.2.1; have := hq.1; omega))
  · exact (h.md.then_new hm (fun i hi hq => by omega)).trans (hms.mono (fun i hi => .inr hi))
theorem cp_flag {l l' : List Int} {x : Int} (h : Cp wZ okZ l x l') : Cp wF (fun _ => True) l (x == 1) l' :=
  h.map (fun x => x == 1) (fun b => if b then 1 else 0) (fun b => by cases b <;> (unfold wF wZ; rw [wN_small (by decide)]; rfl)) (fun b _ => by cases b <;> (unfold okZ; constructor <;> decide)) (fun b _ => by cases b <;> rfl)
set_option maxRecDepth 100000 in
set_option maxHeartbeats 8000000 in
theorem qtable_any (rb : Nat) (s : ByteArray) (A0 : Nat) (w : World) (h : QS w rb s A0) (hs : s.size ≤ 140737488351232) (hA : A0 ≤ 1125899906830000) : Calls Try.prog 64 #[.pointer (some ⟨rb, 0, none⟩)] w (QOut wTab okTab (fun base w v t => vTab base w v t ∧ BdTab t) 420 rb s A0 w) := by
  have hJ := ((LJ.start h).alloc #[.string ⟨#[]⟩, .slice none 0 0, .slice none 0 0, .int .i64 0, .slice none 0 0] 30).alloc #[.string ⟨#[]⟩, .slice none 0 0, .slice none 0 0, .int .i64 0, .slice none 0 0] 30
  have hsz : (w.alloc (Obj.cells #[.string ⟨#[]⟩, .slice none 0 0, .slice none 0 0, .int .i64 0, .slice none 0 0] 30)).heap.size = w.heap.size + 1 := by simp
  rw [hsz] at hJ
  obtain ⟨W, hW⟩ : ∃ u, u = (w.alloc (Obj.cells #[.string ⟨#[]⟩, .slice none 0 0, .slice none 0 0, .int .i64 0, .slice none 0 0] 30)).alloc (Obj.cells #[.string ⟨#[]⟩, .slice none 0 0, .slice none 0 0, .int .i64 0, .slice none 0 0] 30) := ⟨_, rfl⟩
  have hWs : W.heap.size = w.heap.size + 2 := by rw [hW]; simp
  obtain ⟨tb, htb⟩ : ∃ t, t = w.heap.size + 1 := ⟨_, rfl⟩
  rw [← hW, ← htb] at hJ
  have hlt := blk_lt h
  have HJ := Aside0.mk hJ
  clear hJ hsz h
  go_enter Try.func64, Try.ntmps64
  go_wp2_with fail
  rw [← hW, ← htb]
  have HTB := Lib.hid htb
  clear hW htb
  have hrt : rb ≠ tb := by have := HTB.out; omega
  refine (qtext_any rb s A0 W HJ.out.qs hs (by omega)).mono ?_
  rintro e w1 ⟨u1, nm, A1, rfl, ⟨rfl, hnm⟩, hQ1, hM1, hA1, hcp1⟩
  have hL1 : ∀ p ∈ [(w.heap.size, (#[.string ⟨#[]⟩, .slice none 0 0, .slice none 0 0, .int .i64 0, .slice none 0 0] : Array Value), 30)], p.1 ≠ tb := fun p hp => by have := HTB.out; simp at hp; subst hp; show w.heap.size ≠ tb; omega
  have HL1 := Lib.hid hL1
  have hJ1 := HJ.out.read hQ1 hM1
  have y1 := blk_cell hJ1.hd 0
  have y2 := blk_frozen hJ1.hd 0
  have hJ1s := hJ1.set 0 (.string nm) (cs' := #[.string nm, .slice none 0 0, .slice none 0 0, .int .i64 0, .slice none 0 0]) rfl HL1.out
  obtain ⟨w1s, hws⟩ : ∃ u, u = w1.setCell ⟨tb, 0, none⟩ (.string nm) := ⟨_, rfl⟩
  rw [← hws] at hJ1s
  have HJ1 := Aside0.mk hJ1s
  have RD1 := Lib.hid hcp1
  clear hQ1 hM1 hcp1 hJ1 hJ1s hL1 HJ
  go_wp2_with fail
  rw [← hws]
  clear hws y1 y2
  refine (qmany_any 16 (by decide) rb s A1 w1s HJ1.out.qs hs (by omega)).mono ?_
  rintro e w2 ⟨v2, n0, A2, rfl, rfl, hQ2, hM2, hA2, hcp2⟩
  obtain ⟨n, hn⟩ : ∃ n, n = min n0 16 := ⟨_, rfl⟩
  have hn8 : n ≤ 16 := by omega
  rw [← hn]
  have HJ2 := Aside0.mk (HJ1.out.read hQ2 hM2)
  have RD2 := Lib.hid hcp2
  have HN := Lib.hid hn
  have HAB := Lib.hid (show A2 ≤ max A0 (s.size + 1) + 8 by omega)
  have hrw2 : rb < w2.heap.size := blk_lt hQ2
  clear hQ2 hM2 hA1 hA2 hcp2 hn HJ1
  go_wp2_with fail
  go_loopg [5] n (fun gn i wr => ∃ (k A : Nat) (v : Value) (xs : List Col), i = .int .i64 k ∧ Aside0 (k + gn = n ∧ xs.length = k ∧ A ≤ max A2 (s.size + 1) + 12 * k ∧ LCp wC okC ((bytesOf s).drop A2) xs ((bytesOf s).drop A) ∧ ∀ y ∈ xs, y.name.size ≤ 140737488351232) ∧ Aside0 (CL kCol 62 rb tb 30 rb w2 wr #[.string nm, v, .slice none 0 0, .int .i64 0, .slice none 0 0] v xs s A))
  case atStart => exact ⟨0, A2, .slice none 0 0, [], rfl, ⟨by omega, rfl, by omega, LCp.start _ _ _, fun y hy => by cases hy⟩, ⟨CL.start HJ2.out.qs HJ2.out.hd (by omega)⟩⟩
  case round =>
    obtain ⟨k, A, v, xs, rfl, ⟨hgn, hxl, hA, hL, hbds⟩, hC⟩ := hrel
    obtain ⟨V, vc, hv⟩ := Kd.R_slice hC.out.row
    subst hv
    have HGN := Lib.hid hgn
    have HXL := Lib.hid hxl
    have HAX := Lib.hid hA
    have HL := Lib.hid hL
    have HBD := Lib.hid hbds
    have hAb : A ≤ 1125899906839000 := by have := HAB.out; omega
    have hxn : xs.length ≤ 16 := by omega
    have hkn : k ≤ n := by omega
    have hlts := hC.out.lts
    have hms := hC.out.md.size
    clear hgn hxl hA hL hbds
    by_cases hlt2 : k < n
    · have p0 : (k : Int) < (n : Int) := by omega
      obtain ⟨wa, hwa, ba, sa, hba⟩ := grow (W := wr) rfl #[.string ⟨#[]⟩, .int .i64 0, .bool false] 62
      obtain ⟨gb, hgb⟩ : ∃ g, g = wr.heap.size := ⟨_, rfl⟩
      rw [← hgb] at ba
      have hCa := (hC.out.fresh gb (by omega)).below hba
      have C0 := Aside0.mk hCa
      have G0 := Aside0.mk ba
      have hgw : w2.heap.size ≤ gb := by omega
      have HVL := Lib.hid (show ∀ q, (Value.slice V xs.length vc).ownBlock = some q → q < gb from fun q hq => by have := Kd.R_lt hC.out.row q hq; omega)
      clear ba sa hba hCa hC
      go_wp2_with fail
      rw [← hwa, ← hgb]
      clear hwa hgb
      refine (qtext_any rb s A wa C0.out.qs hs (by omega)).mono ?_
      rintro e x1w ⟨u1, x1, B1, rfl, ⟨rfl, hx1⟩, hQ, hM, hB, hc⟩
      have D1 := Lib.hid hc
      have hbd1 : B1 ≤ max A (s.size + 1) + 4 := by omega
      have hC := C0.out.read hQ hM
      have hG := blk_mod G0.out hM (by omega)
      have y1 := blk_cell hG 0
      have y2 := blk_frozen hG 0
      have hCs := hC.put hgw 0 (.string x1)
      have hGs := blk_put (cs' := #[.string x1, .int .i64 0, .bool false]) hG 0 (.string x1) rfl
      obtain ⟨x1ws, hws⟩ : ∃ u, u = x1w.setCell ⟨gb, 0, none⟩ (.string x1) := ⟨_, rfl⟩
      rw [← hws] at hCs hGs
      have C1 := Aside0.mk hCs
      have G1 := Aside0.mk hGs
      have HWS := Aside0.mk hws
      clear hQ hM hB hc hC hG hCs hGs C0 G0
      go_wp2_with fail
      rw [← hws]
      clear hws HWS y1 y2
      refine (qnum_any rb s B1 x1ws C1.out.qs hs (by omega)).mono ?_
      rintro e x2w ⟨u2, x2, B2, rfl, ⟨rfl, hx2⟩, hQ, hM, hB, hc⟩
      have D2 := Lib.hid hc
      have hbd2 : B2 ≤ max A (s.size + 1) + 8 := by omega
      have hC := C1.out.read hQ hM
      have hG := blk_mod G1.out hM (by omega)
      have y1 := blk_cell hG 1
      have y2 := blk_frozen hG 1
      have hCs := hC.put hgw 1 (.int .i64 x2)
      have hGs := blk_put (cs' := #[.string x1, .int .i64 x2, .bool false]) hG 1 (.int .i64 x2) rfl
      obtain ⟨x2ws, hws⟩ : ∃ u, u = x2w.setCell ⟨gb, 1, none⟩ (.int .i64 x2) := ⟨_, rfl⟩
      rw [← hws] at hCs hGs
      have C2 := Aside0.mk hCs
      have G2 := Aside0.mk hGs
      have HWS := Aside0.mk hws
      clear hQ hM hB hc hC hG hCs hGs C1 G1
      go_wp2_with fail
      rw [← hws]
      clear hws HWS y1 y2
      refine (qnum_any rb s B2 x2ws C2.out.qs hs (by omega)).mono ?_
      rintro e x3w ⟨u3, x3, B3, rfl, ⟨rfl, hx3⟩, hQ, hM, hB, hc⟩
      have D3 := Lib.hid hc
      have hbd3 : B3 ≤ max A (s.size + 1) + 12 := by omega
      have hC := C2.out.read hQ hM
      have hG := blk_mod G2.out hM (by omega)
      have y1 := blk_cell hG 2
      have y2 := blk_frozen hG 2
      have hCs := hC.put hgw 2 (.bool (x3 == 1))
      have hGs := blk_put (cs' := #[.string x1, .int .i64 x2, .bool (x3 == 1)]) hG 2 (.bool (x3 == 1)) rfl
      obtain ⟨x3ws, hws⟩ : ∃ u, u = x3w.setCell ⟨gb, 2, none⟩ (.bool (x3 == 1)) := ⟨_, rfl⟩
      rw [← hws] at hCs hGs
      have C3 := Aside0.mk hCs
      have G3 := Aside0.mk hGs
      have HWS := Aside0.mk hws
      clear hQ hM hB hc hC hG hCs hGs C2 G2
      have z9 : (x3w.setCell ⟨gb, 2, none⟩ (.bool (x3 == 1))).cell? ⟨tb, 1, none⟩ = some (.slice V xs.length vc) := by rw [← hws]; exact blk_cell C3.out.tbx 1
      have z0 : (x3w.setCell ⟨gb, 2, none⟩ (.bool (x3 == 1))).cell? ⟨gb, 0, none⟩ = some (.string x1) := by rw [← hws]; exact blk_cell G3.out 0
      have z1 : (x3w.setCell ⟨gb, 2, none⟩ (.bool (x3 == 1))).cell? ⟨gb, 1, none⟩ = some (.int .i64 x2) := by rw [← hws]; exact blk_cell G3.out 1
      have z2 : (x3w.setCell ⟨gb, 2, none⟩ (.bool (x3 == 1))).cell? ⟨gb, 2, none⟩ = some (.bool (x3 == 1)) := by rw [← hws]; exact blk_cell G3.out 2
      have HSZ := Aside0.mk (show x3w.heap.size = x3ws.heap.size by rw [hws, setCell_size])
      clear hws
      go_wp2_with (at_builtin; (rw [← HWS.out, HSZ.out]); refine Kd.R_append kCol (w0 := x3ws) w2.heap.size rfl (.tmp 35) (.tmp 37) 26 62 _ 32 rfl Try.underlying26 info62b rfl (by decide) (by omega) (.slice V xs.length vc) xs (⟨x1, x2, x3 == 1⟩ : Col) [.string x1, .int .i64 x2, .bool (x3 == 1)] (fun q => w2.heap.size ≤ q ∧ q ≠ gb) (fun _ => False) rfl rfl ?aP (fun _ hk => hk.elim) ?aF ?aO ?aB ?aS ?aL ?_; (case aP => exact kCol_M.2 rfl); (case aF => exact (fun i hi => ⟨Nat.le_trans C3.out.md.size hi, by have := blk_lt G3.out; omega⟩)); (case aO => exact C3.out.row); (case aB => exact Below.refl _ _); (case aS => exact C3.out.md.size); (case aL => omega); intro v3 w3 ho3 hb3 hg3 hat3; (obtain ⟨V3, vc3, hv3⟩ := Kd.R_slice ho3); rw [List.length_append, List.length_singleton] at hv3; subst hv3; (obtain ⟨hC9, hT9⟩ := C3.out.appended ho3 hg3 1 (cs' := #[.string nm, (.slice V3 (xs.length + 1) vc3), .slice none 0 0, .int .i64 0, .slice none 0 0]) rfl); have C9 := Aside0.mk hC9; have y8 := blk_cell hT9 1; have y9 := blk_frozen hT9 1; clear ho3 hb3 hg3 hat3 hC9 hT9 z9 z0 z1 z2 y1 y2 HWS HSZ)
      go_roundg (n - (k + 1))
      case measure => have := HGN.out; omega
      case rel => exact ⟨k + 1, B3, .slice V3 (xs.length + 1) vc3, xs ++ [⟨x1, x2, x3 == 1⟩], by go_num, ⟨by have := HGN.out; omega, by rw [List.length_append, HXL.out]; rfl, by have := HAX.out; omega, HL.out.step ((D1.out.pair (D2.out.pair (cp_flag D3.out))).map (w' := wC) (ok' := okC) (fun p => (⟨p.1, p.2.1, p.2.2⟩ : Col)) (fun c => (c.name, c.type, c.notNull)) (fun _ => rfl) (fun y hy => ⟨hy.1, hy.2, trivial⟩) (fun _ _ => rfl)), fun y hy => by
        rcases List.mem_append.1 hy with hy | hy
        · exact HBD.out y hy
        · rw [List.mem_singleton.1 hy]; exact hx1⟩, C9⟩
    · have hkn2 : k = n := by omega
      have HJ3 := Aside0.mk (HJ2.out.turn hC.out.qs hC.out.md hC.out.tbx HL1.out)
      have HR1 := Aside0.mk (Kd.R_mono (ok' := fun q => w2.heap.size ≤ q) hC.out.row (fun q hq => hq.1))
      have RDC := Lib.hid (LCp.done RD2.out HL.out (by rw [HXL.out, hkn2, HN.out]) (fun m hm => by omega))
      have p1 : ¬ (k : Int) < (n : Int) := by omega
      have HAC := Lib.hid (show A ≤ max A0 (s.size + 1) + 200 by have := HAX.out; have := HAB.out; omega)
      have hts := hlts.2.1
      have HB1 := Lib.hid HBD.out
      clear hC HGN HXL HAX HL HJ2 hlts RD2 HBD
      go_wp2_with fail
      refine (qnums_any rb s A wr HJ3.out.qs hs (by omega)).mono ?_
      rintro e w3 ⟨u3, key, A3, rfl, hv3, hQ3, hM3, hA3, hcp3⟩
      have hv3' : (Kd.int .i64).R 3 w3 wr.heap.size (fun _ => True) u3 key := hv3
      obtain ⟨V2, c2, hv2⟩ := Kd.R_slice hv3'
      subst hv2
      have hJ3 := HJ3.out.read hQ3 hM3
      have hJ3s := hJ3.set 2 (.slice V2 key.length c2) (cs' := #[.string nm, .slice V xs.length vc, .slice V2 key.length c2, .int .i64 0, .slice none 0 0]) rfl HL1.out
      have y1 := blk_cell hJ3.hd 2
      have y2 := blk_frozen hJ3.hd 2
      have hm3 := mod_setCell w3 tb 2 (.slice V2 key.length c2)
      have HR1b := Aside0.mk (R_up (N := w2.heap.size) (R_up (N := w2.heap.size) HR1.out (fun q h => h) hM3 (fun i hi => by omega)) (fun q h => h) hm3 (fun i hi => by omega))
      have HR2b := Aside0.mk (R_up (N := w2.heap.size) (Kd.R_mono (ok' := fun q => w2.heap.size ≤ q) (Kd.R_bound hv3') (fun q h => Nat.le_trans hms h.2.1)) (fun q h => h) hm3 (fun i hi => by omega))
      obtain ⟨w3s, hws⟩ : ∃ u, u = w3.setCell ⟨tb, 2, none⟩ (.slice V2 key.length c2) := ⟨_, rfl⟩
      rw [← hws] at hJ3s HR1b HR2b
      have HJ4 := Aside0.mk hJ3s
      have RD3 := Lib.hid hcp3
      have HA3 := Lib.hid (show A3 ≤ max A0 (s.size + 1) + 236 by have := HAC.out; omega)
      have hs3 : w2.heap.size ≤ w3s.heap.size := by have h1 := hM3.size; rw [hws, setCell_size]; omega
      clear hv3 hv3' hQ3 hM3 hcp3 hA3 hJ3 hJ3s hm3 HJ3 HR1
      go_wp2_with fail
      rw [← hws]
      clear hws y1 y2
      have hA3' := HA3.out
      refine (qnum_any rb s A3 w3s HJ4.out.qs hs (by omega)).mono ?_
      rintro e w4 ⟨u4, pt, A4, rfl, ⟨rfl, hpt⟩, hQ4, hM4, hA4, hcp4⟩
      have hJ4 := HJ4.out.read hQ4 hM4
      have hJ4s := hJ4.set 3 (.int .i64 pt) (cs' := #[.string nm, .slice V xs.length vc, .slice V2 key.length c2, .int .i64 pt, .slice none 0 0]) rfl HL1.out
      have y1 := blk_cell hJ4.hd 3
      have y2 := blk_frozen hJ4.hd 3
      have hm4 := mod_setCell w4 tb 3 (.int .i64 pt)
      have HR1c := Aside0.mk (R_up (N := w2.heap.size) (R_up (N := w2.heap.size) HR1b.out (fun q h => h) hM4 (fun i hi => by omega)) (fun q h => h) hm4 (fun i hi => by omega))
      have HR2c := Aside0.mk (R_up (N := w2.heap.size) (R_up (N := w2.heap.size) HR2b.out (fun q h => h) hM4 (fun i hi => by omega)) (fun q h => h) hm4 (fun i hi => by omega))
      obtain ⟨w4s, hws⟩ : ∃ u, u = w4.setCell ⟨tb, 3, none⟩ (.int .i64 pt) := ⟨_, rfl⟩
      rw [← hws] at hJ4s HR1c HR2c
      have HJ5 := Aside0.mk hJ4s
      have RD4 := Lib.hid hcp4
      have HA4 := Lib.hid (show A4 ≤ max A0 (s.size + 1) + 240 by omega)
      have hs4 : w2.heap.size ≤ w4s.heap.size := by have h1 := hM4.size; rw [hws, setCell_size]; omega
      clear hQ4 hM4 hcp4 hA4 hJ4 hJ4s hm4 HJ4 HR1b HR2b hA3'
      go_wp2_with fail
      rw [← hws]
      clear hws y1 y2
      have hA4' := HA4.out
      refine (qmany_any 4 (by decide) rb s A4 w4s HJ5.out.qs hs (by omega)).mono ?_
      rintro e w5 ⟨v5, m0, A5, rfl, rfl, hQ5, hM5, hA5, hcp5⟩
      obtain ⟨m, hm⟩ : ∃ m, m = min m0 4 := ⟨_, rfl⟩
      have hm4 : m ≤ 4 := by omega
      rw [← hm]
      have HJ6 := Aside0.mk (HJ5.out.read hQ5 hM5)
      have RD5 := Lib.hid hcp5
      have HM := Lib.hid hm
      have HAB2 := Lib.hid (show A5 ≤ max A0 (s.size + 1) + 244 by omega)
      have HR1d := Aside0.mk (R_up (N := w2.heap.size) HR1c.out (fun q h => h) hM5 (fun i hi => by omega))
      have HR2d := Aside0.mk (R_up (N := w2.heap.size) HR2c.out (fun q h => h) hM5 (fun i hi => by omega))
      have hs5 : w2.heap.size ≤ w5.heap.size := by have h1 := hM5.size; omega
      have hrw5 : rb < w5.heap.size := by omega
      clear hQ5 hM5 hA5 hcp5 hm HJ5 HR1c HR2c hA4'
      go_wp2_with fail
      go_loopg [8] m (fun gn i wr => ∃ (kk AA : Nat) (v : Value) (ys : List Idx), i = .int .i64 kk ∧ Aside0 (kk + gn = m ∧ ys.length = kk ∧ AA ≤ max A5 (s.size + 1) + 44 * kk ∧ LCp wI okI ((bytesOf s).drop A5) ys ((bytesOf s).drop AA) ∧ ∀ y ∈ ys, y.name.size ≤ 140737488351232) ∧ Aside0 (CL kIdx 64 rb tb 30 rb w5 wr #[.string nm, .slice V xs.length vc, .slice V2 key.length c2, .int .i64 pt, v] v ys s AA))
      case atStart => exact ⟨0, A5, .slice none 0 0, [], rfl, ⟨by omega, rfl, by omega, LCp.start _ _ _, fun y hy => by cases hy⟩, ⟨CL.start HJ6.out.qs HJ6.out.hd (by omega)⟩⟩
      case round =>
        obtain ⟨kk, AA, v, ys, rfl, ⟨hgn, hxl, hA, hL, hbds⟩, hC⟩ := hrel
        obtain ⟨VV, vvc, hv⟩ := Kd.R_slice hC.out.row
        subst hv
        have HGN := Lib.hid hgn
        have HXL := Lib.hid hxl
        have HAX := Lib.hid hA
        have HL := Lib.hid hL
        have HBD := Lib.hid hbds
        have hAb : AA ≤ 1125899906839000 := by have := HAB2.out; omega
        have hxn : ys.length ≤ 4 := by omega
        have hkn : kk ≤ m := by omega
        have hlts := hC.out.lts
        have hms := hC.out.md.size
        clear hgn hxl hA hL hbds
        by_cases hlt2 : kk < m
        · have p0 : (kk : Int) < (m : Int) := by omega
          obtain ⟨wa, hwa, ba, sa, hba⟩ := grow (W := wr) rfl #[.string ⟨#[]⟩, .slice none 0 0, .bool false] 64
          obtain ⟨gb, hgb⟩ : ∃ g, g = wr.heap.size := ⟨_, rfl⟩
          rw [← hgb] at ba
          have hCa := (hC.out.fresh gb (by omega)).below hba
          have C0 := Aside0.mk hCa
          have G0 := Aside0.mk ba
          have hgw : w5.heap.size ≤ gb := by omega
          have HVL := Lib.hid (show ∀ q, (Value.slice VV ys.length vvc).ownBlock = some q → q < gb from fun q hq => by have := Kd.R_lt hC.out.row q hq; omega)
          clear ba sa hba hCa hC
          go_wp2_with fail
          rw [← hwa, ← hgb]
          clear hwa hgb
          refine (qtext_any rb s AA wa C0.out.qs hs (by omega)).mono ?_
          rintro e x1w ⟨u1, x1, B1, rfl, ⟨rfl, hx1⟩, hQ, hM, hB, hc⟩
          have D1 := Lib.hid hc
          have hbd1 : B1 ≤ max AA (s.size + 1) + 4 := by omega
          have hC := C0.out.read hQ hM
          have hG := blk_mod G0.out hM (by omega)
          have y1 := blk_cell hG 0
          have y2 := blk_frozen hG 0
          have hCs := hC.put hgw 0 (.string x1)
          have hGs := blk_put (cs' := #[.string x1, .slice none 0 0, .bool false]) hG 0 (.string x1) rfl
          obtain ⟨x1ws, hws⟩ : ∃ u, u = x1w.setCell ⟨gb, 0, none⟩ (.string x1) := ⟨_, rfl⟩
          rw [← hws] at hCs hGs
          have C1 := Aside0.mk hCs
          have G1 := Aside0.mk hGs
          have HWS := Aside0.mk hws
          clear hQ hM hB hc hC hG hCs hGs C0 G0
          go_wp2_with fail
          rw [← hws]
          clear hws HWS y1 y2
          refine (qnum_any rb s B1 x1ws C1.out.qs hs (by omega)).mono ?_
          rintro e x2w ⟨u2, x2, B2, rfl, ⟨rfl, hx2⟩, hQ, hM, hB, hc⟩
          have D2 := Lib.hid hc
          have hbd2 : B2 ≤ max AA (s.size + 1) + 8 := by omega
          have hC := C1.out.read hQ hM
          have hG := blk_mod G1.out hM (by omega)
          have y1 := blk_cell hG 2
          have y2 := blk_frozen hG 2
          have hCs := hC.put hgw 2 (.bool (x2 == 1))
          have hGs := blk_put (cs' := #[.string x1, .slice none 0 0, .bool (x2 == 1)]) hG 2 (.bool (x2 == 1)) rfl
          obtain ⟨x2ws, hws⟩ : ∃ u, u = x2w.setCell ⟨gb, 2, none⟩ (.bool (x2 == 1)) := ⟨_, rfl⟩
          rw [← hws] at hCs hGs
          have C2 := Aside0.mk hCs
          have G2 := Aside0.mk hGs
          have HWS := Aside0.mk hws
          clear hQ hM hB hc hC hG hCs hGs C1 G1
          go_wp2_with fail
          rw [← hws]
          clear hws HWS y1 y2
          refine (qnums_any rb s B2 x2ws C2.out.qs hs (by omega)).mono ?_
          rintro e x3w ⟨u3, x3, B3, rfl, hvv, hQ, hM, hB, hc⟩
          have hvv' : (Kd.int .i64).R 3 x3w x2ws.heap.size (fun _ => True) u3 x3 := hvv
          obtain ⟨X3, xc3, hxv⟩ := Kd.R_slice hvv'
          subst hxv
          have D3 := Lib.hid hc
          have hbd3 : B3 ≤ max AA (s.size + 1) + 44 := by omega
          have hC := C2.out.read hQ hM
          have hG := blk_mod G2.out hM (by omega)
          have RX0 := Aside0.mk (Kd.R_mono (ok' := fun q => gb < q) (Kd.R_lower (Kd.R_bound hvv') (C2.out.md.size)) (fun q hq => by have h1 := hq.2.1; have h2 := blk_lt G2.out; omega))
          clear hvv hvv'
          have y1 := blk_cell hG 1
          have y2 := blk_frozen hG 1
          have hCs := hC.put hgw 1 (.slice X3 x3.length xc3)
          have hGs := blk_put (cs' := #[.string x1, .slice X3 x3.length xc3, .bool (x2 == 1)]) hG 1 (.slice X3 x3.length xc3) rfl
          obtain ⟨x3ws, hws⟩ : ∃ u, u = x3w.setCell ⟨gb, 1, none⟩ (.slice X3 x3.length xc3) := ⟨_, rfl⟩
          have RX1 := Kd.R_far (p := ⟨gb, 1, none⟩) RX0.out (fun q hq he => by have h3 : q = gb := he; omega) (.slice X3 x3.length xc3)
          rw [← hws] at RX1
          have RX := Aside0.mk RX1
          clear RX1 RX0
          rw [← hws] at hCs hGs
          have C3 := Aside0.mk hCs
          have G3 := Aside0.mk hGs
          have HWS := Aside0.mk hws
          clear hQ hM hB hc hC hG hCs hGs C2 G2
          have z9 : (x3w.setCell ⟨gb, 1, none⟩ (.slice X3 x3.length xc3)).cell? ⟨tb, 4, none⟩ = some (.slice VV ys.length vvc) := by rw [← hws]; exact blk_cell C3.out.tbx 4
          have z0 : (x3w.setCell ⟨gb, 1, none⟩ (.slice X3 x3.length xc3)).cell? ⟨gb, 0, none⟩ = some (.string x1) := by rw [← hws]; exact blk_cell G3.out 0
          have z1 : (x3w.setCell ⟨gb, 1, none⟩ (.slice X3 x3.length xc3)).cell? ⟨gb, 1, none⟩ = some (.slice X3 x3.length xc3) := by rw [← hws]; exact blk_cell G3.out 1
          have z2 : (x3w.setCell ⟨gb, 1, none⟩ (.slice X3 x3.length xc3)).cell? ⟨gb, 2, none⟩ = some (.bool (x2 == 1)) := by rw [← hws]; exact blk_cell G3.out 2
          have HSZ := Aside0.mk (show x3w.heap.size = x3ws.heap.size by rw [hws, setCell_size])
          clear hws
          go_wp2_with (at_builtin; (rw [← HWS.out, HSZ.out]); refine Kd.R_append kIdx (w0 := x3ws) w5.heap.size rfl (.tmp 66) (.tmp 68) 28 64 _ 48 rfl Try.underlying28 info64b rfl (by decide) (by omega) (.slice VV ys.length vvc) ys (⟨x1, x3, x2 == 1⟩ : Idx) [.string x1, .slice X3 x3.length xc3, .bool (x2 == 1)] (fun q => w5.heap.size ≤ q ∧ q ≠ gb) (fun q => gb < q) rfl rfl ?aP (fun q hq => ⟨⟨by omega, by omega⟩, fun he => by have := HVL.out q he.symm; omega⟩) ?aF ?aO ?aB ?aS ?aL ?_; (case aP => exact kIdx_M.2 ⟨_, rfl, RX.out⟩); (case aF => exact (fun i hi => ⟨Nat.le_trans C3.out.md.size hi, by have := blk_lt G3.out; omega⟩)); (case aO => exact C3.out.row); (case aB => exact Below.refl _ _); (case aS => exact C3.out.md.size); (case aL => omega); intro v3 w3 ho3 hb3 hg3 hat3; (obtain ⟨V3, vc3, hv3⟩ := Kd.R_slice ho3); rw [List.length_append, List.length_singleton] at hv3; subst hv3; (obtain ⟨hC9, hT9⟩ := C3.out.appended ho3 hg3 4 (cs' := #[.string nm, .slice V xs.length vc, .slice V2 key.length c2, .int .i64 pt, (.slice V3 (ys.length + 1) vc3)]) rfl); have C9 := Aside0.mk hC9; have y8 := blk_cell hT9 4; have y9 := blk_frozen hT9 4; clear ho3 hb3 hg3 hat3 hC9 hT9 z9 z0 z1 z2 y1 y2 HWS HSZ)
          go_roundg (m - (kk + 1))
          case measure => have := HGN.out; omega
          case rel => exact ⟨kk + 1, B3, .slice V3 (ys.length + 1) vc3, ys ++ [⟨x1, x3, x2 == 1⟩], by go_num, ⟨by have := HGN.out; omega, by rw [List.length_append, HXL.out]; rfl, by have := HAX.out; omega, HL.out.step ((D1.out.pair ((cp_flag D2.out).pair D3.out)).map (w' := wI) (ok' := okI) (fun p => (⟨p.1, p.2.2, p.2.1⟩ : Idx)) (fun c => (c.name, c.unique, c.columns)) (fun _ => rfl) (fun y hy => ⟨hy.1, trivial, hy.2⟩) (fun _ _ => rfl)), fun y hy => by
            rcases List.mem_append.1 hy with hy | hy
            · exact HBD.out y hy
            · rw [List.mem_singleton.1 hy]; exact hx1⟩, C9⟩
        · have hkm : kk = m := by omega
          have hJ7 := HJ6.out.turn hC.out.qs hC.out.md hC.out.tbx HL1.out
          have HR3 := Aside0.mk (Kd.R_mono (ok' := fun q => w5.heap.size ≤ q) hC.out.row (fun q hq => hq.1))
          have HR1e := Aside0.mk (R_up (N := w2.heap.size) HR1d.out (fun q h => h) hC.out.md (fun i hi => by omega))
          have HR2e := Aside0.mk (R_up (N := w2.heap.size) HR2d.out (fun q h => h) hC.out.md (fun i hi => by omega))
          have RDI := Lib.hid (LCp.done RD5.out HL.out (by rw [HXL.out, hkm, HM.out]) (fun m hm => by omega))
          have p2 : ¬ (kk : Int) < (m : Int) := by omega
          have HAE := Lib.hid (show AA ≤ max A0 (s.size + 1) + 420 by have := HAX.out; have := HAB2.out; omega)
          have HJ7 := Aside0.mk hJ7
          have hW0 : w.heap.size ≤ w2.heap.size := by have := HTB.out; omega
          have hW5 : w.heap.size < w5.heap.size := by have := HTB.out; omega
          have hW6 : w.heap.size < w2.heap.size := by have := HTB.out; omega
          have q0 : wr.cell? ⟨tb, 0, none⟩ = some (.string nm) := blk_cell hJ7.hd 0
          have q1 : wr.cell? ⟨tb, 1, none⟩ = some (.slice V xs.length vc) := blk_cell hJ7.hd 1
          have q2 : wr.cell? ⟨tb, 2, none⟩ = some (.slice V2 key.length c2) := blk_cell hJ7.hd 2
          have q3 : wr.cell? ⟨tb, 3, none⟩ = some (.int .i64 pt) := blk_cell hJ7.hd 3
          have q4 : wr.cell? ⟨tb, 4, none⟩ = some (.slice VV ys.length vvc) := blk_cell hJ7.hd 4
          have z0 : wr.cell? ⟨w.heap.size, 0, none⟩ = some (.string ⟨#[]⟩) := blk_cell hJ7.at2 0
          have z1 : wr.cell? ⟨w.heap.size, 1, none⟩ = some (.slice none 0 0) := blk_cell hJ7.at2 1
          have z2 : wr.cell? ⟨w.heap.size, 2, none⟩ = some (.slice none 0 0) := blk_cell hJ7.at2 2
          have z3 : wr.cell? ⟨w.heap.size, 3, none⟩ = some (.int .i64 0) := blk_cell hJ7.at2 3
          have z4 : wr.cell? ⟨w.heap.size, 4, none⟩ = some (.slice none 0 0) := blk_cell hJ7.at2 4
          have k0 : ∀ i, wr.frozen? ⟨w.heap.size, i, none⟩ = false := fun i => blk_frozen hJ7.at2 i
          clear hJ7 HR1d HR2d HGN HXL HAX HL HJ6
          go_wp2_with fail
          have hm := ((((mod_setCell wr w.heap.size 0 (.string nm)).trans (mod_setCell _ _ 1 (.slice V xs.length vc))).trans (mod_setCell _ _ 2 (.slice V2 key.length c2))).trans (mod_setCell _ _ 3 (.int .i64 pt))).trans (mod_setCell _ _ 4 (.slice VV ys.length vvc))
          have hE := blk_put (cs' := #[.string nm, .slice V xs.length vc, .slice V2 key.length c2, .int .i64 pt, .slice VV ys.length vvc]) (blk_put (cs' := #[.string nm, .slice V xs.length vc, .slice V2 key.length c2, .int .i64 pt, .slice none 0 0]) (blk_put (cs' := #[.string nm, .slice V xs.length vc, .slice V2 key.length c2, .int .i64 0, .slice none 0 0]) (blk_put (cs' := #[.string nm, .slice V xs.length vc, .slice none 0 0, .int .i64 0, .slice none 0 0]) (blk_put (cs' := #[.string nm, .slice none 0 0, .slice none 0 0, .int .i64 0, .slice none 0 0]) (HJ7.out.at2) 0 (.string nm) rfl) 1 (.slice V xs.length vc) rfl) 2 (.slice V2 key.length c2) rfl) 3 (.int .i64 pt) rfl) 4 (.slice VV ys.length vvc) rfl
          refine bodyPost_ret (results_cell_row rfl _ _ w.heap.size 30 #[.string nm, .slice V xs.length vc, .slice V2 key.length c2, .int .i64 pt, .slice VV ys.length vvc] (0, 0) _ rfl hE Try.underlying30 rfl (by kernel_rfl)) rfl ?_
          have hrd := (RD1.out.pair (RDC.out.pair (RD3.out.pair (RD4.out.pair RDI.out)))).map (w' := wTab) (ok' := okTab) (fun p => (⟨p.1, p.2.1, p.2.2.1, p.2.2.2.1, p.2.2.2.2⟩ : Tab)) (fun t => (t.name, t.cols, t.key, t.part, t.idx)) (fun _ => rfl) (fun y hy => hy) (fun _ _ => rfl)
          refine ⟨_, ⟨nm, xs, key, pt, ys⟩, AA, rfl, ⟨⟨_, _, _, rfl, ?_, ?_, ?_⟩, ⟨hnm, HB1.out, HBD.out⟩⟩, blk_mod HJ7.out.qs hm (by omega), HJ7.out.md.then_new hm (fun i hi hq => by omega), HAE.out, hrd⟩
          · exact Kd.R_mono (Kd.R_lower (R_up (N := w2.heap.size) HR1e.out (fun q h => h) hm (fun i hi => by omega)) (by omega)) (fun _ _ => trivial)
          · exact Kd.R_mono (Kd.R_lower (R_up (N := w2.heap.size) HR2e.out (fun q h => h) hm (fun i hi => by omega)) (by omega)) (fun _ _ => trivial)
          · exact Kd.R_mono (Kd.R_lower (R_up (N := w5.heap.size) HR3.out (fun q h => h) hm (fun i hi => by omega)) (by omega)) (fun _ _ => trivial)
end Go.Proofs.Ytcmgdieeclninaa

/- Layer 08: D53 ref reader proc -/
set_option linter.unusedVariables false
set_option linter.unusedSimpArgs false
namespace Go.Proofs.Ytcmgdieeclninaa
open Go.RowKit Go.Proofs.YtcmgdieeclninaaW.PrintWords
set_option maxRecDepth 100000 in
set_option maxHeartbeats 8000000 in
theorem qproc_any (rb : Nat) (s : ByteArray) (A0 : Nat) (w : World) (h : QS w rb s A0) (hs : s.size ≤ 140737488351232) (hA : A0 ≤ 1125899906830000) : Calls Try.prog 65 #[.pointer (some ⟨rb, 0, none⟩)] w (QOut wPrc okPrc (fun base w v t => vPrc base w v t ∧ BdPrc t) 120 rb s A0 w) := by
  have hJ := ((LJ.start h).alloc #[.string ⟨#[]⟩, .slice none 0 0, .slice none 0 0, .int .i64 0, .int .i64 0] 34).alloc #[.string ⟨#[]⟩, .slice none 0 0, .slice none 0 0, .int .i64 0, .int .i64 0] 34
  have hsz : (w.alloc (Obj.cells #[.string ⟨#[]⟩, .slice none 0 0, .slice none 0 0, .int .i64 0, .int .i64 0] 34)).heap.size = w.heap.size + 1 := by simp
  rw [hsz] at hJ
  obtain ⟨W, hW⟩ : ∃ u, u = (w.alloc (Obj.cells #[.string ⟨#[]⟩, .slice none 0 0, .slice none 0 0, .int .i64 0, .int .i64 0] 34)).alloc (Obj.cells #[.string ⟨#[]⟩, .slice none 0 0, .slice none 0 0, .int .i64 0, .int .i64 0] 34) := ⟨_, rfl⟩
  have hWs : W.heap.size = w.heap.size + 2 := by rw [hW]; simp
  obtain ⟨tb, htb⟩ : ∃ t, t = w.heap.size + 1 := ⟨_, rfl⟩
  rw [← hW, ← htb] at hJ
  have hlt := blk_lt h
  have HJ := Aside0.mk hJ
  clear hJ hsz h
  go_enter Try.func65, Try.ntmps65
  go_wp2_with fail
  rw [← hW, ← htb]
  have HTB := Lib.hid htb
  clear hW htb
  have hrt : rb ≠ tb := by have := HTB.out; omega
  refine (qtext_any rb s A0 W HJ.out.qs hs (by omega)).mono ?_
  rintro e w1 ⟨u1, nm, A1, rfl, ⟨rfl, hnm⟩, hQ1, hM1, hA1, hcp1⟩
  have hL1 : ∀ p ∈ [(w.heap.size, (#[.string ⟨#[]⟩, .slice none 0 0, .slice none 0 0, .int .i64 0, .int .i64 0] : Array Value), 34)], p.1 ≠ tb := fun p hp => by have := HTB.out; simp at hp; subst hp; show w.heap.size ≠ tb; omega
  have HL1 := Lib.hid hL1
  have hJ1 := HJ.out.read hQ1 hM1
  have y1 := blk_cell hJ1.hd 0
  have y2 := blk_frozen hJ1.hd 0
  have hJ1s := hJ1.set 0 (.string nm) (cs' := #[.string nm, .slice none 0 0, .slice none 0 0, .int .i64 0, .int .i64 0]) rfl HL1.out
  obtain ⟨w1s, hws⟩ : ∃ u, u = w1.setCell ⟨tb, 0, none⟩ (.string nm) := ⟨_, rfl⟩
  rw [← hws] at hJ1s
  have HJ1 := Aside0.mk hJ1s
  have RD1 := Lib.hid hcp1
  clear hQ1 hM1 hcp1 hJ1 hJ1s hL1 HJ
  go_wp2_with fail
  rw [← hws]
  clear hws y1 y2
  refine (qmany_any 8 (by decide) rb s A1 w1s HJ1.out.qs hs (by omega)).mono ?_
  rintro e w2 ⟨v2, n0, A2, rfl, rfl, hQ2, hM2, hA2, hcp2⟩
  obtain ⟨n, hn⟩ : ∃ n, n = min n0 8 := ⟨_, rfl⟩
  have hn8 : n ≤ 8 := by omega
  rw [← hn]
  have HJ2 := Aside0.mk (HJ1.out.read hQ2 hM2)
  have RD2 := Lib.hid hcp2
  have HN := Lib.hid hn
  have HAB := Lib.hid (show A2 ≤ max A0 (s.size + 1) + 8 by omega)
  have hrw2 : rb < w2.heap.size := blk_lt hQ2
  clear hQ2 hM2 hA1 hA2 hcp2 hn HJ1
  go_wp2_with fail
  go_loopg [5] n (fun gn i wr => ∃ (k A : Nat) (v : Value) (xs : List Prm), i = .int .i64 k ∧ Aside0 (k + gn = n ∧ xs.length = k ∧ A ≤ max A2 (s.size + 1) + 8 * k ∧ LCp wP okP ((bytesOf s).drop A2) xs ((bytesOf s).drop A) ∧ ∀ y ∈ xs, y.name.size ≤ 140737488351232) ∧ Aside0 (CL kPrm 66 rb tb 34 rb w2 wr #[.string nm, v, .slice none 0 0, .int .i64 0, .int .i64 0] v xs s A))
  case atStart => exact ⟨0, A2, .slice none 0 0, [], rfl, ⟨by omega, rfl, by omega, LCp.start _ _ _, fun y hy => by cases hy⟩, ⟨CL.start HJ2.out.qs HJ2.out.hd (by omega)⟩⟩
  case round =>
    obtain ⟨k, A, v, xs, rfl, ⟨hgn, hxl, hA, hL, hbds⟩, hC⟩ := hrel
    obtain ⟨V, vc, hv⟩ := Kd.R_slice hC.out.row
    subst hv
    have HGN := Lib.hid hgn
    have HXL := Lib.hid hxl
    have HAX := Lib.hid hA
    have HL := Lib.hid hL
    have HBD := Lib.hid hbds
    have hAb : A ≤ 1125899906839000 := by have := HAB.out; omega
    have hxn : xs.length ≤ 8 := by omega
    have hkn : k ≤ n := by omega
    have hlts := hC.out.lts
    have hms := hC.out.md.size
    clear hgn hxl hA hL hbds
    by_cases hlt2 : k < n
    · have p0 : (k : Int) < (n : Int) := by omega
      obtain ⟨wa, hwa, ba, sa, hba⟩ := grow (W := wr) rfl #[.string ⟨#[]⟩, .int .i64 0] 66
      obtain ⟨gb, hgb⟩ : ∃ g, g = wr.heap.size := ⟨_, rfl⟩
      rw [← hgb] at ba
      have hCa := (hC.out.fresh gb (by omega)).below hba
      have C0 := Aside0.mk hCa
      have G0 := Aside0.mk ba
      have hgw : w2.heap.size ≤ gb := by omega
      have HVL := Lib.hid (show ∀ q, (Value.slice V xs.length vc).ownBlock = some q → q < gb from fun q hq => by have := Kd.R_lt hC.out.row q hq; omega)
      clear ba sa hba hCa hC
      go_wp2_with fail
      rw [← hwa, ← hgb]
      clear hwa hgb
      refine (qtext_any rb s A wa C0.out.qs hs (by omega)).mono ?_
      rintro e x1w ⟨u1, x1, B1, rfl, ⟨rfl, hx1⟩, hQ, hM, hB, hc⟩
      have D1 := Lib.hid hc
      have hbd1 : B1 ≤ max A (s.size + 1) + 4 := by omega
      have hC := C0.out.read hQ hM
      have hG := blk_mod G0.out hM (by omega)
      have y1 := blk_cell hG 0
      have y2 := blk_frozen hG 0
      have hCs := hC.put hgw 0 (.string x1)
      have hGs := blk_put (cs' := #[.string x1, .int .i64 0]) hG 0 (.string x1) rfl
      obtain ⟨x1ws, hws⟩ : ∃ u, u = x1w.setCell ⟨gb, 0, none⟩ (.string x1) := ⟨_, rfl⟩
      rw [← hws] at hCs hGs
      have C1 := Aside0.mk hCs
      have G1 := Aside0.mk hGs
      have HWS := Aside0.mk hws
      clear hQ hM hB hc hC hG hCs hGs C0 G0
      go_wp2_with fail
      rw [← hws]
      clear hws HWS y1 y2
      refine (qnum_any rb s B1 x1ws C1.out.qs hs (by omega)).mono ?_
      rintro e x2w ⟨u2, x2, B2, rfl, ⟨rfl, hx2⟩, hQ, hM, hB, hc⟩
      have D2 := Lib.hid hc
      have hbd2 : B2 ≤ max A (s.size + 1) + 8 := by omega
      have hC := C1.out.read hQ hM
      have hG := blk_mod G1.out hM (by omega)
      have y1 := blk_cell hG 1
      have y2 := blk_frozen hG 1
      have hCs := hC.put hgw 1 (.int .i64 x2)
      have hGs := blk_put (cs' := #[.string x1, .int .i64 x2]) hG 1 (.int .i64 x2) rfl
      obtain ⟨x2ws, hws⟩ : ∃ u, u = x2w.setCell ⟨gb, 1, none⟩ (.int .i64 x2) := ⟨_, rfl⟩
      rw [← hws] at hCs hGs
      have C2 := Aside0.mk hCs
      have G2 := Aside0.mk hGs
      have HWS := Aside0.mk hws
      clear hQ hM hB hc hC hG hCs hGs C1 G1
      have z9 : (x2w.setCell ⟨gb, 1, none⟩ (.int .i64 x2)).cell? ⟨tb, 1, none⟩ = some (.slice V xs.length vc) := by rw [← hws]; exact blk_cell C2.out.tbx 1
      have z0 : (x2w.setCell ⟨gb, 1, none⟩ (.int .i64 x2)).cell? ⟨gb, 0, none⟩ = some (.string x1) := by rw [← hws]; exact blk_cell G2.out 0
      have z1 : (x2w.setCell ⟨gb, 1, none⟩ (.int .i64 x2)).cell? ⟨gb, 1, none⟩ = some (.int .i64 x2) := by rw [← hws]; exact blk_cell G2.out 1
      have HSZ := Aside0.mk (show x2w.heap.size = x2ws.heap.size by rw [hws, setCell_size])
      clear hws
      go_wp2_with (at_builtin; (rw [← HWS.out, HSZ.out]); refine Kd.R_append kPrm (w0 := x2ws) w2.heap.size rfl (.tmp 28) (.tmp 30) 31 66 _ 24 rfl Try.underlying31 info66b rfl (by decide) (by omega) (.slice V xs.length vc) xs (⟨x1, x2⟩ : Prm) [.string x1, .int .i64 x2] (fun q => w2.heap.size ≤ q ∧ q ≠ gb) (fun _ => False) rfl rfl ?aP (fun _ hk => hk.elim) ?aF ?aO ?aB ?aS ?aL ?_; (case aP => exact kPrm_M.2 rfl); (case aF => exact (fun i hi => ⟨Nat.le_trans C2.out.md.size hi, by have := blk_lt G2.out; omega⟩)); (case aO => exact C2.out.row); (case aB => exact Below.refl _ _); (case aS => exact C2.out.md.size); (case aL => omega); intro v3 w3 ho3 hb3 hg3 hat3; (obtain ⟨V3, vc3, hv3⟩ := Kd.R_slice ho3); rw [List.length_append, List.length_singleton] at hv3; subst hv3; (obtain ⟨hC9, hT9⟩ := C2.out.appended ho3 hg3 1 (cs' := #[.string nm, (.slice V3 (xs.length + 1) vc3), .slice none 0 0, .int .i64 0, .int .i64 0]) rfl); have C9 := Aside0.mk hC9; have y8 := blk_cell hT9 1; have y9 := blk_frozen hT9 1; clear ho3 hb3 hg3 hat3 hC9 hT9 z9 z0 z1 y1 y2 HWS HSZ)
      go_roundg (n - (k + 1))
      case measure => have := HGN.out; omega
      case rel => exact ⟨k + 1, B2, .slice V3 (xs.length + 1) vc3, xs ++ [⟨x1, x2⟩], by go_num, ⟨by have := HGN.out; omega, by rw [List.length_append, HXL.out]; rfl, by have := HAX.out; omega, HL.out.step ((D1.out.pair D2.out).map (w' := wP) (ok' := okP) (fun p => (⟨p.1, p.2⟩ : Prm)) (fun c => (c.name, c.type)) (fun _ => rfl) (fun y hy => hy) (fun _ _ => rfl)), fun y hy => by
        rcases List.mem_append.1 hy with hy | hy
        · exact HBD.out y hy
        · rw [List.mem_singleton.1 hy]; exact hx1⟩, C9⟩
    · have hkn2 : k = n := by omega
      have HJ3 := Aside0.mk (HJ2.out.turn hC.out.qs hC.out.md hC.out.tbx HL1.out)
      have HR1 := Aside0.mk (Kd.R_mono (ok' := fun q => w2.heap.size ≤ q) hC.out.row (fun q hq => hq.1))
      have RDC := Lib.hid (LCp.done RD2.out HL.out (by rw [HXL.out, hkn2, HN.out]) (fun m hm => by omega))
      have p1 : ¬ (k : Int) < (n : Int) := by omega
      have HAC := Lib.hid (show A ≤ max A0 (s.size + 1) + 72 by have := HAX.out; have := HAB.out; omega)
      have hts := hlts.2.1
      have HB1 := Lib.hid HBD.out
      clear hC HGN HXL HAX HL HJ2 hlts RD2 HBD
      go_wp2_with fail
      refine (qmany_any 8 (by decide) rb s A wr HJ3.out.qs hs (by omega)).mono ?_
      rintro e w5 ⟨v5, m0, A5, rfl, rfl, hQ5, hM5, hA5, hcp5⟩
      obtain ⟨m, hm⟩ : ∃ m, m = min m0 8 := ⟨_, rfl⟩
      have hm4 : m ≤ 8 := by omega
      rw [← hm]
      have HJ6 := Aside0.mk (HJ3.out.read hQ5 hM5)
      have RD5 := Lib.hid hcp5
      have HM := Lib.hid hm
      have HAB2 := Lib.hid (show A5 ≤ max A0 (s.size + 1) + 76 by have := HAC.out; omega)
      have HR1d := Aside0.mk (R_up (N := w2.heap.size) HR1.out (fun q h => h) hM5 (fun i hi => by omega))
      have hs5 : w2.heap.size ≤ w5.heap.size := by have h1 := hM5.size; omega
      have hrw5 : rb < w5.heap.size := by omega
      clear hQ5 hM5 hA5 hcp5 hm HJ3 HR1
      go_wp2_with fail
      go_loopg [7] m (fun gn i wr => ∃ (kk AA : Nat) (v : Value) (ys : List ByteArray), i = .int .i64 kk ∧ Aside0 (kk + gn = m ∧ ys.length = kk ∧ AA ≤ max A5 (s.size + 1) + 4 * kk ∧ LCp wT okT ((bytesOf s).drop A5) ys ((bytesOf s).drop AA) ∧ ∀ y ∈ ys, y.size ≤ 140737488351232) ∧ Aside0 (CL Kd.string 9 rb tb 34 rb w5 wr #[.string nm, .slice V xs.length vc, v, .int .i64 0, .int .i64 0] v ys s AA))
      case atStart => exact ⟨0, A5, .slice none 0 0, [], rfl, ⟨by omega, rfl, by omega, LCp.start _ _ _, fun y hy => by cases hy⟩, ⟨CL.start HJ6.out.qs HJ6.out.hd (by omega)⟩⟩
      case round =>
        obtain ⟨kk, AA, v, ys, rfl, ⟨hgn, hxl, hA, hL, hbds⟩, hC⟩ := hrel
        obtain ⟨VV, vvc, hv⟩ := Kd.R_slice hC.out.row
        subst hv
        have HGN := Lib.hid hgn
        have HXL := Lib.hid hxl
        have HAX := Lib.hid hA
        have HL := Lib.hid hL
        have HBD := Lib.hid hbds
        have hAb : AA ≤ 1125899906839000 := by have := HAB2.out; omega
        have hxn : ys.length ≤ 8 := by omega
        have hkn : kk ≤ m := by omega
        have hlts := hC.out.lts
        have hms := hC.out.md.size
        clear hgn hxl hA hL hbds
        by_cases hlt2 : kk < m
        · have p0 : (kk : Int) < (m : Int) := by omega
          have C0 := Aside0.mk hC.out
          clear hC
          go_wp2_with fail
          refine (qtext_any rb s AA wr C0.out.qs hs (by omega)).mono ?_
          rintro e x1w ⟨u1, x1, B1, rfl, ⟨rfl, hx1⟩, hQ, hM, hB, hc⟩
          have D1 := Lib.hid hc
          have hbd1 : B1 ≤ max AA (s.size + 1) + 4 := by omega
          have hC := C0.out.read hQ hM
          have C1 := Aside0.mk hC
          clear hQ hM hB hc hC C0
          have z9 : x1w.cell? ⟨tb, 2, none⟩ = some (.slice VV ys.length vvc) := blk_cell C1.out.tbx 2
          go_wp2_with (at_builtin; refine Kd.R_append Kd.string (w0 := x1w) w5.heap.size rfl (.tmp 43) (.tmp 45) 32 9 _ 16 rfl Try.underlying32 info9b rfl (by decide) (by omega) (.slice VV ys.length vvc) ys x1 [.string x1] (fun q => w5.heap.size ≤ q ∧ q ≠ rb) (fun _ => False) rfl rfl ?aP (fun _ hk => hk.elim) ?aF ?aO ?aB ?aS ?aL ?_; (case aP => exact rfl); (case aF => exact (fun i hi => ⟨Nat.le_trans C1.out.md.size hi, by have := blk_lt C1.out.qs; omega⟩)); (case aO => exact C1.out.row); (case aB => exact Below.refl _ _); (case aS => exact C1.out.md.size); (case aL => omega); intro v3 w3 ho3 hb3 hg3 hat3; (obtain ⟨V3, vc3, hv3⟩ := Kd.R_slice ho3); rw [List.length_append, List.length_singleton] at hv3; subst hv3; (obtain ⟨hC9, hT9⟩ := C1.out.appended ho3 hg3 2 (cs' := #[.string nm, .slice V xs.length vc, (.slice V3 (ys.length + 1) vc3), .int .i64 0, .int .i64 0]) rfl); have C9 := Aside0.mk hC9; have y8 := blk_cell hT9 2; have y9 := blk_frozen hT9 2; clear ho3 hb3 hg3 hat3 hC9 hT9 z9)
          go_roundg (m - (kk + 1))
          case measure => have := HGN.out; omega
          case rel => exact ⟨kk + 1, B1, .slice V3 (ys.length + 1) vc3, ys ++ [x1], by go_num, ⟨by have := HGN.out; omega, by rw [List.length_append, HXL.out]; rfl, by have := HAX.out; omega, HL.out.step (D1.out), fun y hy => by
            rcases List.mem_append.1 hy with hy | hy
            · exact HBD.out y hy
            · rw [List.mem_singleton.1 hy]; exact hx1⟩, C9⟩
        · have hkm : kk = m := by omega
          have HJ7 := Aside0.mk (HJ6.out.turn hC.out.qs hC.out.md hC.out.tbx HL1.out)
          have HR3 := Aside0.mk (Kd.R_mono (ok' := fun q => w5.heap.size ≤ q) hC.out.row (fun q hq => hq.1))
          have HR1e := Aside0.mk (R_up (N := w2.heap.size) HR1d.out (fun q h => h) hC.out.md (fun i hi => by omega))
          have RDI := Lib.hid (LCp.done RD5.out HL.out (by rw [HXL.out, hkm, HM.out]) (fun m hm => by omega))
          have p2 : ¬ (kk : Int) < (m : Int) := by omega
          have HAE := Lib.hid (show AA ≤ max A0 (s.size + 1) + 108 by have := HAX.out; have := HAB2.out; omega)
          have hW0 : w.heap.size ≤ w2.heap.size := by have := HTB.out; omega
          have hW5 : w.heap.size < w5.heap.size := by have := HTB.out; omega
          have hW6 : w.heap.size < w2.heap.size := by have := HTB.out; omega
          clear hC HR1d HGN HXL HAX HL HJ6
          have hAE := HAE.out
          go_wp2_with fail
          refine (qnum_any rb s AA wr HJ7.out.qs hs (by omega)).mono ?_
          rintro e w7 ⟨u7, rows, A7, rfl, ⟨rfl, hrows⟩, hQ7, hM7, hA7, hcp7⟩
          have hJ7 := HJ7.out.read hQ7 hM7
          have hJ7s := hJ7.set 3 (.int .i64 rows) (cs' := #[.string nm, .slice V xs.length vc, .slice VV ys.length vvc, .int .i64 rows, .int .i64 0]) rfl HL1.out
          have y1 := blk_cell hJ7.hd 3
          have y2 := blk_frozen hJ7.hd 3
          have hm7 := mod_setCell w7 tb 3 (.int .i64 rows)
          have HR1f := Aside0.mk (R_up (N := w2.heap.size) (R_up (N := w2.heap.size) HR1e.out (fun q h => h) hM7 (fun i hi => by omega)) (fun q h => h) hm7 (fun i hi => by omega))
          have HR3f := Aside0.mk (R_up (N := w5.heap.size) (R_up (N := w5.heap.size) HR3.out (fun q h => h) hM7 (fun i hi => by omega)) (fun q h => h) hm7 (fun i hi => by omega))
          obtain ⟨w7s, hws⟩ : ∃ u, u = w7.setCell ⟨tb, 3, none⟩ (.int .i64 rows) := ⟨_, rfl⟩
          rw [← hws] at hJ7s HR1f HR3f
          have HJ8 := Aside0.mk hJ7s
          have RD7 := Lib.hid hcp7
          have HA7 := Lib.hid (show A7 ≤ max A0 (s.size + 1) + 112 by omega)
          clear hQ7 hM7 hA7 hcp7 hJ7 hJ7s hm7 HJ7 HR1e HR3 hAE
          go_wp2_with fail
          rw [← hws]
          clear hws y1 y2
          have hA7 := HA7.out
          refine (qnum_any rb s A7 w7s HJ8.out.qs hs (by omega)).mono ?_
          rintro e w8 ⟨u8, bts, A8, rfl, ⟨rfl, hbts⟩, hQ8, hM8, hA8, hcp8⟩
          have hJ8 := HJ8.out.read hQ8 hM8
          have hJ8s := hJ8.set 4 (.int .i64 bts) (cs' := #[.string nm, .slice V xs.length vc, .slice VV ys.length vvc, .int .i64 rows, .int .i64 bts]) rfl HL1.out
          have y1 := blk_cell hJ8.hd 4
          have y2 := blk_frozen hJ8.hd 4
          have hm8 := mod_setCell w8 tb 4 (.int .i64 bts)
          have HR1g := Aside0.mk (R_up (N := w2.heap.size) (R_up (N := w2.heap.size) HR1f.out (fun q h => h) hM8 (fun i hi => by omega)) (fun q h => h) hm8 (fun i hi => by omega))
          have HR3g := Aside0.mk (R_up (N := w5.heap.size) (R_up (N := w5.heap.size) HR3f.out (fun q h => h) hM8 (fun i hi => by omega)) (fun q h => h) hm8 (fun i hi => by omega))
          obtain ⟨w8s, hws⟩ : ∃ u, u = w8.setCell ⟨tb, 4, none⟩ (.int .i64 bts) := ⟨_, rfl⟩
          rw [← hws] at hJ8s HR1g HR3g
          have HJ9 := Aside0.mk hJ8s
          have RD8 := Lib.hid hcp8
          have HA8 := Lib.hid (show A8 ≤ max A0 (s.size + 1) + 120 by omega)
          clear hQ8 hM8 hA8 hcp8 hJ8 hJ8s hm8 HJ8 HR1f HR3f hA7
          have q0 : (w8.setCell ⟨tb, 4, none⟩ (.int .i64 bts)).cell? ⟨tb, 0, none⟩ = some (.string nm) := by rw [← hws]; exact blk_cell HJ9.out.hd 0
          have q1 : (w8.setCell ⟨tb, 4, none⟩ (.int .i64 bts)).cell? ⟨tb, 1, none⟩ = some (.slice V xs.length vc) := by rw [← hws]; exact blk_cell HJ9.out.hd 1
          have q2 : (w8.setCell ⟨tb, 4, none⟩ (.int .i64 bts)).cell? ⟨tb, 2, none⟩ = some (.slice VV ys.length vvc) := by rw [← hws]; exact blk_cell HJ9.out.hd 2
          have q3 : (w8.setCell ⟨tb, 4, none⟩ (.int .i64 bts)).cell? ⟨tb, 3, none⟩ = some (.int .i64 rows) := by rw [← hws]; exact blk_cell HJ9.out.hd 3
          have q4 : (w8.setCell ⟨tb, 4, none⟩ (.int .i64 bts)).cell? ⟨tb, 4, none⟩ = some (.int .i64 bts) := by rw [← hws]; exact blk_cell HJ9.out.hd 4
          have z0 : (w8.setCell ⟨tb, 4, none⟩ (.int .i64 bts)).cell? ⟨w.heap.size, 0, none⟩ = some (.string ⟨#[]⟩) := by rw [← hws]; exact blk_cell HJ9.out.at2 0
          have z1 : (w8.setCell ⟨tb, 4, none⟩ (.int .i64 bts)).cell? ⟨w.heap.size, 1, none⟩ = some (.slice none 0 0) := by rw [← hws]; exact blk_cell HJ9.out.at2 1
          have z2 : (w8.setCell ⟨tb, 4, none⟩ (.int .i64 bts)).cell? ⟨w.heap.size, 2, none⟩ = some (.slice none 0 0) := by rw [← hws]; exact blk_cell HJ9.out.at2 2
          have z3 : (w8.setCell ⟨tb, 4, none⟩ (.int .i64 bts)).cell? ⟨w.heap.size, 3, none⟩ = some (.int .i64 0) := by rw [← hws]; exact blk_cell HJ9.out.at2 3
          have z4 : (w8.setCell ⟨tb, 4, none⟩ (.int .i64 bts)).cell? ⟨w.heap.size, 4, none⟩ = some (.int .i64 0) := by rw [← hws]; exact blk_cell HJ9.out.at2 4
          have k0 : ∀ i, (w8.setCell ⟨tb, 4, none⟩ (.int .i64 bts)).frozen? ⟨w.heap.size, i, none⟩ = false := fun i => by rw [← hws]; exact blk_frozen HJ9.out.at2 i
          have HWS := Aside0.mk hws
          clear hws
          go_wp2_with fail
          rw [← HWS.out]
          have hm := ((((mod_setCell w8s w.heap.size 0 (.string nm)).trans (mod_setCell _ _ 1 (.slice V xs.length vc))).trans (mod_setCell _ _ 2 (.slice VV ys.length vvc))).trans (mod_setCell _ _ 3 (.int .i64 rows))).trans (mod_setCell _ _ 4 (.int .i64 bts))
          have hE := blk_put (cs' := #[.string nm, .slice V xs.length vc, .slice VV ys.length vvc, .int .i64 rows, .int .i64 bts]) (blk_put (cs' := #[.string nm, .slice V xs.length vc, .slice VV ys.length vvc, .int .i64 rows, .int .i64 0]) (blk_put (cs' := #[.string nm, .slice V xs.length vc, .slice VV ys.length vvc, .int .i64 0, .int .i64 0]) (blk_put (cs' := #[.string nm, .slice V xs.length vc, .slice none 0 0, .int .i64 0, .int .i64 0]) (blk_put (cs' := #[.string nm, .slice none 0 0, .slice none 0 0, .int .i64 0, .int .i64 0]) (HJ9.out.at2) 0 (.string nm) rfl) 1 (.slice V xs.length vc) rfl) 2 (.slice VV ys.length vvc) rfl) 3 (.int .i64 rows) rfl) 4 (.int .i64 bts) rfl
          refine bodyPost_ret (results_cell_row rfl _ _ w.heap.size 34 #[.string nm, .slice V xs.length vc, .slice VV ys.length vvc, .int .i64 rows, .int .i64 bts] (0, 0) _ rfl hE Try.underlying34 rfl (by kernel_rfl)) rfl ?_
          have hrd := (RD1.out.pair (RDC.out.pair (RDI.out.pair (RD7.out.pair RD8.out)))).map (w' := wPrc) (ok' := okPrc) (fun p => (⟨p.1, p.2.1, p.2.2.1, p.2.2.2.1, p.2.2.2.2⟩ : Prc)) (fun t => (t.name, t.params, t.body, t.rows, t.bytes)) (fun _ => rfl) (fun y hy => hy) (fun _ _ => rfl)
          refine ⟨_, ⟨nm, xs, ys, rows, bts⟩, A8, rfl, ⟨⟨_, _, rfl, ?_, ?_⟩, ⟨hnm, HB1.out, HBD.out⟩⟩, blk_mod HJ9.out.qs hm (by omega), HJ9.out.md.then_new hm (fun i hi hq => by omega), HA8.out, hrd⟩
          · exact Kd.R_mono (Kd.R_lower (R_up (N := w2.heap.size) HR1g.out (fun q h => h) hm (fun i hi => by omega)) (by omega)) (fun _ _ => trivial)
          · exact Kd.R_mono (Kd.R_lower (R_up (N := w5.heap.size) HR3g.out (fun q h => h) hm (fun i hi => by omega)) (by omega)) (fun _ _ => trivial)
end Go.Proofs.Ytcmgdieeclninaa

/- Layer 08: D55 ref Decode -/
set_option linter.unusedVariables false
set_option linter.unusedSimpArgs false
namespace Go.Proofs.Ytcmgdieeclninaa
open Go.RowKit Go.Proofs.YtcmgdieeclninaaW.PrintWords
set_option maxRecDepth 100000 in
set_option maxHeartbeats 8000000 in
theorem qdecode_any (s : ByteArray) (w : World) (hs : s.size ≤ 140737488351232) : Calls Try.prog 29 #[.string s] w (fun e w' => ∃ r, DecRel s r ∧ CatOut r w e w') := by
  obtain ⟨wR, hwR, br, sr, hbr⟩ := grow (W := w.alloc zCat) (m := w.heap.size + 1) (by simp) #[.string s, .int .i64 0] 94
  have hg0 : wR.heap[w.heap.size]? = some zCat := by rw [hwR]; exact blk_alloc' (blk_alloc _ _)
  have hbR : Below w.heap.size w wR := by rw [hwR]; exact below_alloc (below_alloc (Below.refl _ _) _) _
  obtain ⟨rb, hrb⟩ : ∃ r, r = w.heap.size + 1 := ⟨_, rfl⟩
  obtain ⟨tb, htb⟩ : ∃ t, t = w.heap.size + 2 := ⟨_, rfl⟩
  rw [← hrb] at br
  have hqs : QS wR rb s 0 := br
  have hJ := (LJ.start hqs).alloc #[.slice none 0 0, .slice none 0 0] 25
  rw [show wR.heap.size = tb by omega] at hJ
  obtain ⟨W, hW⟩ : ∃ u, u = wR.alloc (Obj.cells #[.slice none 0 0, .slice none 0 0] 25) := ⟨_, rfl⟩
  rw [← hW] at hJ
  have HJ := Aside0.mk hJ
  have HG0 := Aside0.mk hg0
  have HBR := Aside0.mk hbR
  have hRS : wR.heap.size = w.heap.size + 2 := sr
  have hrt : rb ≠ tb := by omega
  have hw0 : (w.alloc (Obj.cells #[.slice none 0 0, .slice none 0 0] 25)).alloc (Obj.cells #[.string s, .int .i64 0] 94) = wR := hwR.symm
  clear hJ hg0 hbR br sr hbr hqs hwR
  go_enter Try.func29, Try.ntmps29
  go_wp2_with fail
  rw [← hW, ← hrb, ← htb]
  have HRB := Lib.hid (And.intro hrb htb)
  clear hw0 hW hrb htb
  refine (qmany_any 8 (by decide) rb s 0 W HJ.out.qs hs (by omega)).mono ?_
  rintro e w2 ⟨v2, n0, A2, rfl, rfl, hQ2, hM2, hA2, hcp2⟩
  obtain ⟨n, hn⟩ : ∃ n, n = min n0 8 := ⟨_, rfl⟩
  have hn8 : n ≤ 8 := by omega
  rw [← hn]
  have HJ2 := Aside0.mk (HJ.out.read hQ2 hM2)
  have RD2 := Lib.hid hcp2
  have HN := Lib.hid hn
  have HAB := Lib.hid (show A2 ≤ s.size + 1 + 4 by omega)
  have hrw2 : rb < w2.heap.size := blk_lt hQ2
  clear hQ2 hM2 hA2 hcp2 hn HJ
  go_wp2_with fail
  go_loopg [7] n (fun gn i wr => ∃ (k A : Nat) (v : Value) (xs : List Tab), i = .int .i64 k ∧ Aside0 (k + gn = n ∧ xs.length = k ∧ A ≤ max A2 (s.size + 1) + 420 * k ∧ LCp wTab okTab ((bytesOf s).drop A2) xs ((bytesOf s).drop A) ∧ ∀ y ∈ xs, BdTab y) ∧ Aside0 (CL kTab 30 rb tb 25 rb w2 wr #[v, .slice none 0 0] v xs s A))
  case atStart => exact ⟨0, A2, .slice none 0 0, [], rfl, ⟨by omega, rfl, by omega, LCp.start _ _ _, fun y hy => by cases hy⟩, ⟨CL.start HJ2.out.qs HJ2.out.hd (by omega)⟩⟩
  case round =>
    obtain ⟨k, A, v, xs, rfl, ⟨hgn, hxl, hA, hL, hbds⟩, hC⟩ := hrel
    obtain ⟨V, vc, hv⟩ := Kd.R_slice hC.out.row
    subst hv
    have HGN := Lib.hid hgn
    have HXL := Lib.hid hxl
    have HAX := Lib.hid hA
    have HL := Lib.hid hL
    have HBD := Lib.hid hbds
    have hAb : A ≤ 1125899906830000 := by have := HAB.out; omega
    have hxn : xs.length ≤ 8 := by omega
    have hkn : k ≤ n := by omega
    have hlts := hC.out.lts
    have hms := hC.out.md.size
    clear hgn hxl hA hL hbds
    by_cases hlt2 : k < n
    · have p0 : (k : Int) < (n : Int) := by omega
      have HVL := Lib.hid (show ∀ q, (Value.slice V xs.length vc).ownBlock = some q → q < wr.heap.size from fun q hq => Kd.R_lt hC.out.row q hq)
      go_wp2_with fail
      refine (qtable_any rb s A wr hC.out.qs hs (by omega)).mono ?_
      rintro e x1w ⟨u1, x1, B1, rfl, ⟨hv1, hbx⟩, hQ, hM, hB, hc⟩
      obtain ⟨v1, v2, v3, rfl, h1, h2, h3⟩ := hv1
      obtain ⟨X1, xc1, hxv⟩ := Kd.R_slice h1
      subst hxv
      obtain ⟨X2, xc2, hxv⟩ := Kd.R_slice h2
      subst hxv
      obtain ⟨X3, xc3, hxv⟩ := Kd.R_slice h3
      subst hxv
      have RX10 := Kd.R_lower (Kd.R_mono (ok' := fun q => wr.heap.size ≤ q ∧ q < x1w.heap.size) (Kd.R_bound h1) (fun q hq => ⟨hq.2.1, hq.2.2.1⟩)) hms
      have RX20 := Kd.R_lower (Kd.R_mono (ok' := fun q => wr.heap.size ≤ q ∧ q < x1w.heap.size) (Kd.R_bound h2) (fun q hq => ⟨hq.2.1, hq.2.2.1⟩)) hms
      have RX30 := Kd.R_lower (Kd.R_mono (ok' := fun q => wr.heap.size ≤ q ∧ q < x1w.heap.size) (Kd.R_bound h3) (fun q hq => ⟨hq.2.1, hq.2.2.1⟩)) hms
      have D1 := Lib.hid hc
      have hbd1 : B1 ≤ max A (s.size + 1) + 420 := by omega
      have hC1 := hC.out.read hQ hM
      have hrw1 : wr.heap.size ≤ x1w.heap.size := hM.size
      obtain ⟨wa, hwa, ba, sa, hba⟩ := grow (W := x1w) rfl #[.string x1.name, .slice X1 x1.cols.length xc1, .slice X2 x1.key.length xc2, .int .i64 x1.part, .slice X3 x1.idx.length xc3] 30
      have hCa := hC1.below hba
      have RX1 := Aside0.mk (Kd.R_below RX10 hba)
      have RX2 := Aside0.mk (Kd.R_below RX20 hba)
      have RX3 := Aside0.mk (Kd.R_below RX30 hba)
      have C1 := Aside0.mk hCa
      have HWA := Aside0.mk hwa
      have HSZ := Aside0.mk sa
      have z9 : (x1w.alloc (Obj.cells #[.string x1.name, .slice X1 x1.cols.length xc1, .slice X2 x1.key.length xc2, .int .i64 x1.part, .slice X3 x1.idx.length xc3] 30)).cell? ⟨tb, 0, none⟩ = some (.slice V xs.length vc) := by rw [← hwa]; exact blk_cell hCa.tbx 0
      have hsa : x1w.heap.size ≤ wa.heap.size := hba.size
      clear h1 h2 h3 hQ hM hB hc hC hC1 hCa hwa sa hba ba RX10 RX20 RX30
      go_wp2_with (at_builtin; (rw [← HWA.out, ← HSZ.out]); refine Kd.R_append kTab (w0 := wa) w2.heap.size rfl (.tmp 27) (.tmp 29) 22 30 _ 96 rfl Try.underlying22 info30 rfl (by decide) (by omega) (.slice V xs.length vc) xs x1 [.string x1.name, .slice X1 x1.cols.length xc1, .slice X2 x1.key.length xc2, .int .i64 x1.part, .slice X3 x1.idx.length xc3] (fun q => w2.heap.size ≤ q ∧ q ≠ rb) (fun q => wr.heap.size ≤ q ∧ q < x1w.heap.size) rfl rfl ?aP (fun q hq => ⟨⟨by omega, by omega⟩, fun he => by have := HVL.out q he.symm; omega⟩) ?aF ?aO ?aB ?aS ?aL ?_; (case aP => exact kTab_M.2 ⟨_, _, _, rfl, RX1.out, RX2.out, RX3.out⟩); (case aF => exact (fun i hi => ⟨Nat.le_trans C1.out.md.size hi, by have := blk_lt C1.out.qs; omega⟩)); (case aO => exact C1.out.row); (case aB => exact Below.refl _ _); (case aS => exact C1.out.md.size); (case aL => omega); intro v3 w3 ho3 hb3 hg3 hat3; (obtain ⟨V3, vc3, hv3⟩ := Kd.R_slice ho3); rw [List.length_append, List.length_singleton] at hv3; subst hv3; (obtain ⟨hC9, hT9⟩ := C1.out.appended ho3 hg3 0 (cs' := #[(.slice V3 (xs.length + 1) vc3), .slice none 0 0]) rfl); have C9 := Aside0.mk hC9; have y8 := blk_cell hT9 0; have y9 := blk_frozen hT9 0; clear ho3 hb3 hg3 hat3 hC9 hT9 z9 HWA HSZ)
      go_roundg (n - (k + 1))
      case measure => have := HGN.out; omega
      case rel => exact ⟨k + 1, B1, .slice V3 (xs.length + 1) vc3, xs ++ [x1], by go_num, ⟨by have := HGN.out; omega, by rw [List.length_append, HXL.out]; rfl, by have := HAX.out; omega, HL.out.step D1.out, fun y hy => by
        rcases List.mem_append.1 hy with hy | hy
        · exact HBD.out y hy
        · rw [List.mem_singleton.1 hy]; exact hbx⟩, C9⟩
    · have hkn2 : k = n := by omega
      have HJ3 := Aside0.mk (HJ2.out.turn hC.out.qs hC.out.md hC.out.tbx (fun p hp => by cases hp))
      have HR1 := Aside0.mk (Kd.R_mono (ok' := fun q => w2.heap.size ≤ q) hC.out.row (fun q hq => hq.1))
      have RDC := Lib.hid (LCp.done RD2.out HL.out (by rw [HXL.out, hkn2, HN.out]) (fun m hm => by omega))
      have p1 : ¬ (k : Int) < (n : Int) := by omega
      have HAC := Lib.hid (show A ≤ s.size + 1 + 3400 by have := HAX.out; have := HAB.out; omega)
      have hts := hlts.2.1
      have HB1 := Lib.hid HBD.out
      clear hC HGN HXL HAX HL HJ2 hlts RD2 HBD
      go_wp2_with fail
      refine (qmany_any 16 (by decide) rb s A wr HJ3.out.qs hs (by omega)).mono ?_
      rintro e w5 ⟨v5, m0, A5, rfl, rfl, hQ5, hM5, hA5, hcp5⟩
      obtain ⟨m, hm⟩ : ∃ m, m = min m0 16 := ⟨_, rfl⟩
      have hm4 : m ≤ 16 := by omega
      rw [← hm]
      have HJ6 := Aside0.mk (HJ3.out.read hQ5 hM5)
      have RD5 := Lib.hid hcp5
      have HM := Lib.hid hm
      have HAB2 := Lib.hid (show A5 ≤ s.size + 1 + 3404 by have := HAC.out; omega)
      have HR1d := Aside0.mk (R_up (N := w2.heap.size) HR1.out (fun q h => h) hM5 (fun i hi => by omega))
      have hs5 : w2.heap.size ≤ w5.heap.size := by have h1 := hM5.size; omega
      have hrw5 : rb < w5.heap.size := by omega
      clear hQ5 hM5 hA5 hcp5 hm HJ3 HR1
      go_wp2_with fail
      go_loopg [9] m (fun gn i wr => ∃ (kk AA : Nat) (v : Value) (ys : List Prc), i = .int .i64 kk ∧ Aside0 (kk + gn = m ∧ ys.length = kk ∧ AA ≤ max A5 (s.size + 1) + 120 * kk ∧ LCp wPrc okPrc ((bytesOf s).drop A5) ys ((bytesOf s).drop AA) ∧ ∀ y ∈ ys, BdPrc y) ∧ Aside0 (CL kPrc 34 rb tb 25 rb w5 wr #[.slice V xs.length vc, v] v ys s AA))
      case atStart => exact ⟨0, A5, .slice none 0 0, [], rfl, ⟨by omega, rfl, by omega, LCp.start _ _ _, fun y hy => by cases hy⟩, ⟨CL.start HJ6.out.qs HJ6.out.hd (by omega)⟩⟩
      case round =>
        obtain ⟨kk, AA, v, ys, rfl, ⟨hgn, hxl, hA, hL, hbds⟩, hC⟩ := hrel
        obtain ⟨VV, vvc, hv⟩ := Kd.R_slice hC.out.row
        subst hv
        have HGN := Lib.hid hgn
        have HXL := Lib.hid hxl
        have HAX := Lib.hid hA
        have HL := Lib.hid hL
        have HBD := Lib.hid hbds
        have hAb : AA ≤ 1125899906830000 := by have := HAB2.out; omega
        have hxn : ys.length ≤ 16 := by omega
        have hkn : kk ≤ m := by omega
        have hlts := hC.out.lts
        have hms := hC.out.md.size
        clear hgn hxl hA hL hbds
        by_cases hlt2 : kk < m
        · have p0 : (kk : Int) < (m : Int) := by omega
          have HVL := Lib.hid (show ∀ q, (Value.slice VV ys.length vvc).ownBlock = some q → q < wr.heap.size from fun q hq => Kd.R_lt hC.out.row q hq)
          go_wp2_with fail
          refine (qproc_any rb s AA wr hC.out.qs hs (by omega)).mono ?_
          rintro e x1w ⟨u1, x1, B1, rfl, ⟨hv1, hbx⟩, hQ, hM, hB, hc⟩
          obtain ⟨v1, v2, rfl, h1, h2⟩ := hv1
          obtain ⟨X1, xc1, hxv⟩ := Kd.R_slice h1
          subst hxv
          obtain ⟨X2, xc2, hxv⟩ := Kd.R_slice h2
          subst hxv
          have RX10 := Kd.R_lower (Kd.R_mono (ok' := fun q => wr.heap.size ≤ q ∧ q < x1w.heap.size) (Kd.R_bound h1) (fun q hq => ⟨hq.2.1, hq.2.2.1⟩)) hms
          have RX20 := Kd.R_lower (Kd.R_mono (ok' := fun q => wr.heap.size ≤ q ∧ q < x1w.heap.size) (Kd.R_bound h2) (fun q hq => ⟨hq.2.1, hq.2.2.1⟩)) hms
          have D1 := Lib.hid hc
          have hbd1 : B1 ≤ max AA (s.size + 1) + 120 := by omega
          have hC1 := hC.out.read hQ hM
          have hrw1 : wr.heap.size ≤ x1w.heap.size := hM.size
          obtain ⟨wa, hwa, ba, sa, hba⟩ := grow (W := x1w) rfl #[.string x1.name, .slice X1 x1.params.length xc1, .slice X2 x1.body.length xc2, .int .i64 x1.rows, .int .i64 x1.bytes] 34
          have hCa := hC1.below hba
          have RX1 := Aside0.mk (Kd.R_below RX10 hba)
          have RX2 := Aside0.mk (Kd.R_below RX20 hba)
          have C1 := Aside0.mk hCa
          have HWA := Aside0.mk hwa
          have HSZ := Aside0.mk sa
          have z9 : (x1w.alloc (Obj.cells #[.string x1.name, .slice X1 x1.params.length xc1, .slice X2 x1.body.length xc2, .int .i64 x1.rows, .int .i64 x1.bytes] 34)).cell? ⟨tb, 1, none⟩ = some (.slice VV ys.length vvc) := by rw [← hwa]; exact blk_cell hCa.tbx 1
          have hsa : x1w.heap.size ≤ wa.heap.size := hba.size
          clear h1 h2  hQ hM hB hc hC hC1 hCa hwa sa hba ba RX10 RX20
          go_wp2_with (at_builtin; (rw [← HWA.out, ← HSZ.out]); refine Kd.R_append kPrc (w0 := wa) w5.heap.size rfl (.tmp 42) (.tmp 44) 23 34 _ 80 rfl Try.underlying23 info34 rfl (by decide) (by omega) (.slice VV ys.length vvc) ys x1 [.string x1.name, .slice X1 x1.params.length xc1, .slice X2 x1.body.length xc2, .int .i64 x1.rows, .int .i64 x1.bytes] (fun q => w5.heap.size ≤ q ∧ q ≠ rb) (fun q => wr.heap.size ≤ q ∧ q < x1w.heap.size) rfl rfl ?aP (fun q hq => ⟨⟨by omega, by omega⟩, fun he => by have := HVL.out q he.symm; omega⟩) ?aF ?aO ?aB ?aS ?aL ?_; (case aP => exact kPrc_M.2 ⟨_, _, rfl, RX1.out, RX2.out⟩); (case aF => exact (fun i hi => ⟨Nat.le_trans C1.out.md.size hi, by have := blk_lt C1.out.qs; omega⟩)); (case aO => exact C1.out.row); (case aB => exact Below.refl _ _); (case aS => exact C1.out.md.size); (case aL => omega); intro v3 w3 ho3 hb3 hg3 hat3; (obtain ⟨V3, vc3, hv3⟩ := Kd.R_slice ho3); rw [List.length_append, List.length_singleton] at hv3; subst hv3; (obtain ⟨hC9, hT9⟩ := C1.out.appended ho3 hg3 1 (cs' := #[.slice V xs.length vc, (.slice V3 (ys.length + 1) vc3)]) rfl); have C9 := Aside0.mk hC9; have y8 := blk_cell hT9 1; have y9 := blk_frozen hT9 1; clear ho3 hb3 hg3 hat3 hC9 hT9 z9 HWA HSZ)
          go_roundg (m - (kk + 1))
          case measure => have := HGN.out; omega
          case rel => exact ⟨kk + 1, B1, .slice V3 (ys.length + 1) vc3, ys ++ [x1], by go_num, ⟨by have := HGN.out; omega, by rw [List.length_append, HXL.out]; rfl, by have := HAX.out; omega, HL.out.step D1.out, fun y hy => by
            rcases List.mem_append.1 hy with hy | hy
            · exact HBD.out y hy
            · rw [List.mem_singleton.1 hy]; exact hbx⟩, C9⟩
        · have hkm : kk = m := by omega
          have hJ7 := HJ6.out.turn hC.out.qs hC.out.md hC.out.tbx (fun p hp => by cases hp)
          have HR3 := Aside0.mk (Kd.R_mono (ok' := fun q => w5.heap.size ≤ q) hC.out.row (fun q hq => hq.1))
          have HR1e := Aside0.mk (R_up (N := w2.heap.size) HR1d.out (fun q h => h) hC.out.md (fun i hi => by omega))
          have RDI := Lib.hid (LCp.done RD5.out HL.out (by rw [HXL.out, hkm, HM.out]) (fun m hm => by omega))
          have p2 : ¬ (kk : Int) < (m : Int) := by omega
          have hrd0 := (RDC.out.pair RDI.out).map (w' := wCat) (ok' := okCat) (fun p => (⟨p.1, p.2⟩ : Cat)) (fun t => (t.tables, t.procs)) (fun _ => rfl) (fun y hy => hy) (fun _ _ => rfl)
          rw [List.drop_zero] at hrd0
          obtain ⟨c, hc⟩ : ∃ c : Cat, c = ⟨xs, ys⟩ := ⟨_, rfl⟩
          have hrd : Cp wCat okCat (bytesOf s) c ((bytesOf s).drop AA) := by rw [hc]; exact hrd0
          have hdr := decRel_len hrd
          have HDR := Aside0.mk hdr
          have HBDC := Aside0.mk (show BdCat c by rw [hc]; exact ⟨HB1.out, HBD.out⟩)
          have HRT := Aside0.mk (show kTab.R 30 wr w2.heap.size (fun q => w2.heap.size ≤ q) (.slice V c.tables.length vc) c.tables by rw [hc]; exact HR1e.out)
          have HRP := Aside0.mk (show kPrc.R 34 wr w5.heap.size (fun q => w5.heap.size ≤ q) (.slice VV c.procs.length vvc) c.procs by rw [hc]; exact HR3.out)
          have HJ7 := Aside0.mk hJ7
          have HTB := Aside0.mk (show wr.heap[tb]? = some (.cells #[.slice V c.tables.length vc, .slice VV c.procs.length vvc] 25 (0, 0)) by rw [hc]; exact HJ7.out.hd)
          have k0 : wr.cell? ⟨tb, 0, none⟩ = some (.slice V c.tables.length vc) := blk_cell HTB.out 0
          have k1 : wr.cell? ⟨tb, 1, none⟩ = some (.slice VV c.procs.length vvc) := blk_cell HTB.out 1
          have CT := (Kd.R_reads' HRT.out).2.2
          have CP := (Kd.R_reads' HRP.out).2.2
          have CT0 := Aside0.mk CT
          have CP0 := Aside0.mk CP
          have HGZ := Aside0.mk (blk_mod HG0.out hJ7.md (by have := HRB.out.1; omega))
          obtain ⟨⟨es, ee⟩, hes⟩ : ∃ r, r = encO c := ⟨_, rfl⟩
          have HES := Aside0.mk hes
          have HMD := Aside0.mk hJ7.md
          have hxl2 : w.heap.size < w2.heap.size := by have := HRB.out; omega
          have hxl5 : w.heap.size < w5.heap.size := by have := HRB.out; omega
          clear hrd0 hrd hdr hc hJ7 HR1e HR3 HR1d HJ6 hC HGN HXL HAX HL HBD CT CP hes RDI RDC RD5 HB1
          go_wp2_with fail
          clear k0 k1
          refine (encodeRef_any c V vc VV vvc wr CT0.out CP0.out HBDC.out).mono ?_
          intro e w6 hq
          rw [← HES.out] at hq
          dsimp only at hq
          obtain ⟨rfl, hb6⟩ := hq
          have HTB6 := Aside0.mk (blk_below HTB.out hb6)
          have HGZ6 := Aside0.mk (blk_below HGZ.out hb6)
          have HRT6 := Aside0.mk (Kd.R_below HRT.out hb6)
          have HRP6 := Aside0.mk (Kd.R_below HRP.out hb6)
          have HM6 := Aside0.mk (HMD.out.trans (Mod.of_below hb6))
          have y0 : w6.cell? ⟨w.heap.size, 0, none⟩ = some (.slice none 0 0) := blk_cell HGZ6.out 0
          have y1 : w6.cell? ⟨w.heap.size, 1, none⟩ = some (.slice none 0 0) := blk_cell HGZ6.out 1
          have y2 : ∀ i, w6.frozen? ⟨w.heap.size, i, none⟩ = false := fun i => blk_frozen HGZ6.out i
          have HBW := Aside0.mk (Mod.below HBR.out HM6.out HBR.out.size (fun i hi => by have := HRB.out.1; omega))
          clear hb6 HGZ HRT HRP HMD CT0 CP0 HBDC HG0 HTB HM6
          have hn1 := HDR.out.1
          have hn2 := HDR.out.2
          rw [← HES.out] at hn1 hn2
          dsimp only at hn1 hn2
          have HN1 := Lib.hid hn1
          have HN2 := Lib.hid hn2
          clear hn1 hn2 HDR
          by_cases hok : ee = 0 ∧ es = s
          · obtain ⟨rfl, rfl⟩ := hok
            have p3 : (es.toList == es.toList) = true := str_eq_true rfl
            have q0 : w6.cell? ⟨tb, 0, none⟩ = some (.slice V c.tables.length vc) := blk_cell HTB6.out 0
            have q1 : w6.cell? ⟨tb, 1, none⟩ = some (.slice VV c.procs.length vvc) := blk_cell HTB6.out 1
            go_wp2_with fail
            have hm := (mod_setCell w6 w.heap.size 0 (.slice V c.tables.length vc)).trans (mod_setCell _ _ 1 (.slice VV c.procs.length vvc))
            have hE := blk_put (cs' := #[.slice V c.tables.length vc, .slice VV c.procs.length vvc]) (blk_put (cs' := #[.slice V c.tables.length vc, .slice none 0 0]) HGZ6.out 0 (.slice V c.tables.length vc) rfl) 1 (.slice VV c.procs.length vvc) rfl
            refine bodyPost_ret (results_row_tmp rfl _ _ w.heap.size 25 #[.slice V c.tables.length vc, .slice VV c.procs.length vvc] (0, 0) _ rfl hE Try.underlying25 rfl (by kernel_rfl)) rfl ?_
            refine ⟨(0, c), (by have h := HN1.out; simpa using h), _, _, rfl, ⟨?_, ?_⟩, Mod.below HBW.out hm HBW.out.size (fun i hi => by omega)⟩
            · exact Kd.R_mono (Kd.R_lower (R_up (N := w2.heap.size) HRT6.out (fun q h => h) hm (fun i hi => by omega)) (by omega)) (fun _ _ => trivial)
            · exact Kd.R_mono (Kd.R_lower (R_up (N := w5.heap.size) HRP6.out (fun q h => h) hm (fun i hi => by omega)) (by omega)) (fun _ _ => trivial)
          · have hend := HN2.out hok
            have HEND := Aside0.mk hend
            clear hend HN1 HN2
            by_cases hee : ee = 0
            · have hes2 : ¬ es = s := fun h => hok ⟨hee, h⟩
              have p3 : (es.toList == s.toList) = false := str_eq_false hes2
              subst hee
              clear hok
              go_wp2_with fail
              have hm := (mod_setCell w6 w.heap.size 0 (.slice none 0 0)).trans (mod_setCell _ _ 1 (.slice none 0 0))
              have hE := blk_put (cs' := #[.slice none 0 0, .slice none 0 0]) (blk_put (cs' := #[.slice none 0 0, .slice none 0 0]) HGZ6.out 0 (.slice none 0 0) rfl) 1 (.slice none 0 0) rfl
              refine bodyPost_ret (results_row_tmp rfl _ _ w.heap.size 25 #[.slice none 0 0, .slice none 0 0] (0, 0) _ rfl hE Try.underlying25 rfl (by kernel_rfl)) rfl ?_
              exact ⟨(80, ⟨[], []⟩), HEND.out, _, _, rfl, ⟨Kd.R_nil _ _ _ _ _, Kd.R_nil _ _ _ _ _⟩, Mod.below HBW.out hm HBW.out.size (fun i hi => by omega)⟩
            · have p4 : (ee != 0) = true := int_bne_true hee
              clear hok
              go_wp2_with fail
              have hm := (mod_setCell w6 w.heap.size 0 (.slice none 0 0)).trans (mod_setCell _ _ 1 (.slice none 0 0))
              have hE := blk_put (cs' := #[.slice none 0 0, .slice none 0 0]) (blk_put (cs' := #[.slice none 0 0, .slice none 0 0]) HGZ6.out 0 (.slice none 0 0) rfl) 1 (.slice none 0 0) rfl
              refine bodyPost_ret (results_row_tmp rfl _ _ w.heap.size 25 #[.slice none 0 0, .slice none 0 0] (0, 0) _ rfl hE Try.underlying25 rfl (by kernel_rfl)) rfl ?_
              exact ⟨(80, ⟨[], []⟩), HEND.out, _, _, rfl, ⟨Kd.R_nil _ _ _ _ _, Kd.R_nil _ _ _ _ _⟩, Mod.below HBW.out hm HBW.out.size (fun i hi => by omega)⟩
end Go.Proofs.Ytcmgdieeclninaa

/- Layer 08: D62 the law Reads -/
set_option linter.unusedVariables false
set_option linter.unusedSimpArgs false
namespace Go.Proofs.Ytcmgdieeclninaa
open Go.RowKit Go.Proofs.YtcmgdieeclninaaW.PrintWords
theorem CatOut.openR {r : Int × Cat} {w w' : World} {e : Ending} (h : CatOut r w e w') : ∃ A1 d1 A2 d2, e = .returned (.tuple #[.agg #[.slice A1 r.2.tables.length d1, .slice A2 r.2.procs.length d2], .int .i64 r.1]) ∧
    kTab.R 30 w' w.heap.size (fun k => w.heap.size ≤ k ∧ k < w'.heap.size) (.slice A1 r.2.tables.length d1) r.2.tables ∧ kPrc.R 34 w' w.heap.size (fun k => w.heap.size ≤ k ∧ k < w'.heap.size) (.slice A2 r.2.procs.length d2) r.2.procs ∧ Below w.heap.size w w' := by
  obtain ⟨v1, v2, rfl, ⟨h1, h2⟩, hb⟩ := h
  obtain ⟨A1, d1, rfl, _, g1⟩ := Kd.R_reads h1
  obtain ⟨A2, d2, rfl, _, g2⟩ := Kd.R_reads h2
  exact ⟨A1, d1, A2, d2, rfl, Kd.R_mono (Kd.R_bound h1) (fun k hk => ⟨hk.2.1, hk.2.2.1⟩), Kd.R_mono (Kd.R_bound h2) (fun k hk => ⟨hk.2.1, hk.2.2.1⟩), hb⟩
theorem below_kin {w0 w w' : World} {ok : Nat → Prop} (h : Below w0.heap.size w0 w) (k : Kin w w' ok) (hok : ∀ i, ok i → w0.heap.size ≤ i) : Below w0.heap.size w0 w' :=
  ⟨k.os.trans h.os, k.tape.trans h.tape, k.output.trans h.output, Nat.le_trans h.size k.size, fun i hi => (k.block i (Nat.lt_of_lt_of_le hi h.size) (fun ho => by have := hok i ho; omega)).trans (h.block i hi)⟩
theorem Kin.R {α : Type} {d : Kd α} {e : Nat} {w w' : World} {base : Nat} {ok ok' : Nat → Prop} {v : Value} {xs : List α} (h : d.R e w base ok v xs) (k : Kin w w' ok') (hn : ∀ i, ok i → ¬ ok' i) : d.R e w' base ok v xs :=
  Kd.R_step h (fun i hi hl => k.block i hl (hn i hi))
set_option maxRecDepth 100000 in
set_option maxHeartbeats 8000000 in
theorem reads_any (s : ByteArray) (W : World) (hZ : s.size ≤ 140737488351232) :
    Calls Try.prog 6 #[.string s] W fun e W' => e = .returned (.bool true) ∧ Below W.heap.size W W' := by
  go_enter Try.func6, Try.ntmps6
  by_cases h1 : 2147483647 < (s.size : Int)
  · go_wp2_with fail
    go_ret
    exact ⟨rfl, Below.refl _ _⟩
  · go_wp2_with fail
    refine (awake_any W).mono ?_
    rintro e w1 ⟨rfl, hb1⟩
    have B1 := Aside0.mk hb1
    clear hb1
    go_wp2_with fail
    refine (decode_any s w1 (by omega)).mono ?_
    rintro e w2 ⟨⟨i1, ca⟩, hr1, hco⟩
    have HR1 := Aside0.mk hr1
    have hcoR := hco.openR
    dsimp only at hcoR
    obtain ⟨V1, v1, V2, v2, rfl, ho1, ho2, hb2⟩ := hcoR
    obtain ⟨w3, hw3, bb, s3, hb3⟩ := grow (W := w2) rfl #[.slice V1 ca.tables.length v1, .slice V2 ca.procs.length v2] 25
    obtain ⟨g1, hg1⟩ : ∃ g, g = w2.heap.size := ⟨_, rfl⟩
    rw [← hg1] at bb s3
    have hlt3 : w3.heap.size = w2.heap.size + 1 := by omega
    have RA1 := Aside0.mk (Kd.R_below ho1 hb3)
    have RA2 := Aside0.mk (Kd.R_below ho2 hb3)
    have BX1 := Aside0.mk bb
    have B3 := Aside0.mk (below_then B1.out B1.out.size (below_then hb2 hb2.size hb3))
    have HS := Lib.hid (And.intro B1.out.size (And.intro hb2.size (And.intro hg1 hlt3)))
    clear hr1 hco ho1 ho2 hb2 hb3 bb s3 B1 hlt3
    go_wp2_with fail
    rw [← hw3, ← hg1]
    clear hw3 hg1
    refine (qdecode_any s w3 (by omega)).mono ?_
    rintro e w4 ⟨r2, hr2, hco⟩
    obtain rfl := DecRel.unique HR1.out hr2
    have hcoR := hco.openR
    dsimp only at hcoR
    obtain ⟨M1, m1, M2, m2, rfl, ho1, ho2, hb4⟩ := hcoR
    obtain ⟨w5, hw5, bb, s5, hb5⟩ := grow (W := w4) rfl #[.slice M1 ca.tables.length m1, .slice M2 ca.procs.length m2] 25
    obtain ⟨g2, hg2⟩ : ∃ g, g = w4.heap.size := ⟨_, rfl⟩
    rw [← hg2] at bb s5
    have hbs := below_then hb4 hb4.size hb5
    have BX2 := Aside0.mk bb
    have RM1 := Aside0.mk (Kd.R_below ho1 hb5)
    have RM2 := Aside0.mk (Kd.R_below ho2 hb5)
    replace BX1 := Aside0.mk (blk_below BX1.out hbs)
    replace RA1 := Aside0.mk (Kd.R_below RA1.out hbs)
    replace RA2 := Aside0.mk (Kd.R_below RA2.out hbs)
    have B5 := Aside0.mk (below_then B3.out B3.out.size hbs)
    have HS2 := Lib.hid (And.intro hb4.size hg2)
    clear hr2 hco ho1 ho2 hb4 hb5 bb s5 B3 hbs
    have k0 : w5.cell? ⟨g1, 0, none⟩ = some (.slice V1 ca.tables.length v1) := blk_cell BX1.out 0
    have k1 : w5.cell? ⟨g1, 1, none⟩ = some (.slice V2 ca.procs.length v2) := blk_cell BX1.out 1
    have k2 : w5.cell? ⟨g2, 0, none⟩ = some (.slice M1 ca.tables.length m1) := blk_cell BX2.out 0
    have k3 : w5.cell? ⟨g2, 1, none⟩ = some (.slice M2 ca.procs.length m2) := blk_cell BX2.out 1
    rw [hw5] at k0 k1 k2 k3
    rw [hg2] at k2 k3
    go_wp2_with fail
    rw [← hw5, ← hg2]
    clear hw5 hg2 k0 k1 k2 k3
    refine (same_any ca V1 v1 V2 v2 ca M1 m1 M2 m2 w5 (Kd.R_reads' RA1.out).2.2 (Kd.R_reads' RA2.out).2.2 (Kd.R_reads' RM1.out).2.2 (Kd.R_reads' RM2.out).2.2).mono ?_
    intro e w6 hq
    rw [decide_eq_true rfl] at hq
    obtain ⟨rfl, hbs⟩ := hq
    replace BX1 := Aside0.mk (blk_below BX1.out hbs)
    replace BX2 := Aside0.mk (blk_below BX2.out hbs)
    replace RA1 := Aside0.mk (Kd.R_below RA1.out hbs)
    replace RA2 := Aside0.mk (Kd.R_below RA2.out hbs)
    replace RM1 := Aside0.mk (Kd.R_below RM1.out hbs)
    replace RM2 := Aside0.mk (Kd.R_below RM2.out hbs)
    have B6 := Aside0.mk (below_then B5.out B5.out.size hbs)
    clear hbs B5
    have k0 : w6.cell? ⟨g1, 0, none⟩ = some (.slice V1 ca.tables.length v1) := blk_cell BX1.out 0
    have k1 : w6.cell? ⟨g1, 1, none⟩ = some (.slice V2 ca.procs.length v2) := blk_cell BX1.out 1
    go_wp2_with fail
    clear k0 k1
    refine (turned_any (fun k => w1.heap.size ≤ k ∧ k < w2.heap.size) V1 ca.tables.length v1 V2 ca.procs.length v2 w6 (shTab_of RA1.out) (shPrc_of RA2.out)).mono ?_
    rintro e w7 ⟨rfl, hkin⟩
    have l1 := HS.out
    have l2 := HS2.out
    have B7 := Aside0.mk (below_kin B6.out hkin (fun i hi => by omega))
    replace BX2 := Aside0.mk (Kin.blk (w0 := w6) BX2.out hkin (fun hi => by omega))
    replace RM1 := Aside0.mk (Kin.R RM1.out hkin (fun i hi hj => by omega))
    replace RM2 := Aside0.mk (Kin.R RM2.out hkin (fun i hi hj => by omega))
    clear hkin l1 l2 B6 BX1 RA1 RA2
    go_wp2_with fail
    refine (decode_any s w7 (by omega)).mono ?_
    rintro e w8 ⟨r3, hr3, hco⟩
    obtain rfl := DecRel.unique HR1.out hr3
    have hcoR := hco.openR
    dsimp only at hcoR
    obtain ⟨N1, n1, N2, n2, rfl, ho1, ho2, hb8⟩ := hcoR
    obtain ⟨w9, hw9, bb, s9, hb9⟩ := grow (W := w8) rfl #[.slice N1 ca.tables.length n1, .slice N2 ca.procs.length n2] 25
    obtain ⟨g3, hg3⟩ : ∃ g, g = w8.heap.size := ⟨_, rfl⟩
    rw [← hg3] at bb s9
    have hbs := below_then hb8 hb8.size hb9
    have BX3 := Aside0.mk bb
    have RN1 := Aside0.mk (Kd.R_below ho1 hb9)
    have RN2 := Aside0.mk (Kd.R_below ho2 hb9)
    replace BX2 := Aside0.mk (blk_below BX2.out hbs)
    replace RM1 := Aside0.mk (Kd.R_below RM1.out hbs)
    replace RM2 := Aside0.mk (Kd.R_below RM2.out hbs)
    have B9 := Aside0.mk (below_then B7.out B7.out.size hbs)
    clear hr3 hco ho1 ho2 hb8 hb9 bb s9 B7 hbs
    have k0 : w9.cell? ⟨g3, 0, none⟩ = some (.slice N1 ca.tables.length n1) := blk_cell BX3.out 0
    have k1 : w9.cell? ⟨g3, 1, none⟩ = some (.slice N2 ca.procs.length n2) := blk_cell BX3.out 1
    have k2 : w9.cell? ⟨g2, 0, none⟩ = some (.slice M1 ca.tables.length m1) := blk_cell BX2.out 0
    have k3 : w9.cell? ⟨g2, 1, none⟩ = some (.slice M2 ca.procs.length m2) := blk_cell BX2.out 1
    rw [hw9] at k0 k1 k2 k3
    rw [hg3] at k0 k1
    go_wp2_with fail
    rw [← hw9, ← hg3]
    clear hw9 hg3 k0 k1 k2 k3
    refine (same_any ca N1 n1 N2 n2 ca M1 m1 M2 m2 w9 (Kd.R_reads' RN1.out).2.2 (Kd.R_reads' RN2.out).2.2 (Kd.R_reads' RM1.out).2.2 (Kd.R_reads' RM2.out).2.2).mono ?_
    intro e w10 hq
    rw [decide_eq_true rfl] at hq
    obtain ⟨rfl, hbs⟩ := hq
    have hend : Below W.heap.size W w10 := below_then B9.out B9.out.size hbs
    clear hbs B9
    go_wp2_with fail
    go_ret
    exact ⟨rfl, hend⟩
end Go.Proofs.Ytcmgdieeclninaa

