/- Layer 23: the walk of awake. -/
import Derived.Test.YtlnneaccgfakeaaK13
set_option linter.unusedVariables false
set_option linter.unusedSimpArgs false
namespace Go.Proofs.Ytlnneaccgfakeaa
open Go.RowKit Go.Proofs.YtlnneaccgfakeaaW.PrintWords Go.Proofs.YtlnneaccgfakeaaW.PrintLast
theorem PNet.start {w : World} {base p : Nat} {ok : Nat → Prop} {k : Int} (h : w.heap[p]? = some (pBox (n0 k) (.slice none 0 0))) (hb : p < base) (hok : ¬ ok p) : PNet w base p ok (n0 k) none 0 [] :=
  ⟨h, Kd.R_nil _ _ _ _ _, rfl, by simp, by simp, hb, hok, by simp, by simp⟩
theorem RNet.start {w : World} {base p : Nat} {ok : Nat → Prop} {k : Int} (h : w.heap[p]? = some (rBox (n0 k) (.slice none 0 0))) (hb : p < base) (hok : ¬ ok p) : RNet w base p ok (n0 k) none 0 :=
  ⟨h, Kd.R_nil _ _ _ _ _, hb, hok, by simp [n0], by simp [n0]⟩
def mA : Msg := ⟨0, 1, 0, 7, []⟩
def mB : Msg := ⟨1, 2, 0, 0, []⟩
theorem st1 : (n0 3).send mA = (0, ⟨3, 1, 0, 0, 0, [mA]⟩) := by rfl
theorem st2 : (NS.mk 3 1 0 0 0 [mA]).send mB = (0, ⟨3, 2, 0, 0, 0, [mA, mB]⟩) := by rfl
theorem st3 : (NS.mk 3 2 0 0 0 [mA, mB]).double 0 = (0, ⟨3, 2, 1, 0, 0, [mA, mB, mA]⟩) := by rfl
theorem st4 : (NS.mk 3 2 1 0 0 [mA, mB, mA]).deliver 1 = ((mB, 0), ⟨3, 2, 1, 0, 1, [mA, mA]⟩) := by rfl
theorem st5 : (NS.mk 3 2 1 0 1 [mA, mA]).deliver 1 = ((mA, 0), ⟨3, 2, 1, 0, 2, [mA]⟩) := by rfl
theorem st6 : (NS.mk 3 2 1 0 2 [mA]).deliver 1 = ((default, 1), ⟨3, 2, 1, 0, 2, [mA]⟩) := by rfl
theorem st7 : (NS.mk 3 2 1 0 2 [mA]).lose 0 = (0, ⟨3, 2, 1, 1, 2, []⟩) := by rfl
set_option maxRecDepth 100000 in
set_option maxHeartbeats 4000000 in
theorem awake_any (w : World) : Calls Try.prog 6 #[] w fun e w' => e = .returned (.bool true) ∧ Below w.heap.size w w' := by
  go_enter Try.func6, Try.ntmps6
  go_wp2_with fail
  refine (new_ok 3 w (by decide)).mono ?_
  rintro e w1 ⟨rfl, hp1, hs1, hb1⟩
  obtain ⟨p, hp⟩ : ∃ p, p = w.heap.size := ⟨_, rfl⟩
  obtain ⟨base, hbase⟩ : ∃ b, b = w1.heap.size := ⟨_, rfl⟩
  rw [← hp] at hp1 hs1 ⊢
  have hN1 : PNet w1 base p (fun q => base ≤ q) (n0 3) none 0 [] := PNet.start hp1 (by omega) (by omega)
  have N1 := Aside0.mk hN1
  have B1 := Aside0.mk hb1
  have HP := Lib.hid hp
  have HBASE := Lib.hid hbase
  have HS1 := Lib.hid hs1
  clear hp1 hs1 hb1 hN1 hp hbase
  go_wp2_with fail
  refine (new_no 1 w1 (by decide)).mono ?_
  rintro e w2 ⟨rfl, hw2⟩
  subst hw2
  go_wp2_with fail
  have hle : base ≤ w2.heap.size := Nat.le_of_eq HBASE.out
  refine (send_any (n0 3) none 0 [] base p (fun q => base ≤ q) mA none 0 w2 N1.out hle (fun k hk => Nat.le_trans hle hk) (Kd.C_nil _ _) (by decide) ⟨by decide, by decide⟩).mono ?_
  rintro e w3 ⟨he, ⟨A3, c3, xs3, hN3⟩, hm3⟩
  rw [st1] at he hN3
  dsimp only at he hN3
  subst he
  have N3 := Aside0.mk hN3
  have M3 := Aside0.mk hm3
  have hle3 : base ≤ w3.heap.size := Nat.le_trans hle hm3.size
  clear hN3 hm3
  go_wp2_with fail
  refine (send_any ⟨3, 1, 0, 0, 0, [mA]⟩ A3 c3 xs3 base p (fun q => base ≤ q) mB none 0 w3 N3.out hle3 (fun k hk => Nat.le_trans hle3 hk) (Kd.C_nil _ _) (by decide) ⟨by show (0:Int) ≤ 1; decide, by show (1:Int) < 4611686018427387904; decide⟩).mono ?_
  rintro e w4 ⟨he, ⟨A4, c4, xs4, hN4⟩, hm4⟩
  rw [st2] at he hN4
  dsimp only at he hN4
  subst he
  have N4 := Aside0.mk hN4
  have M4 := Aside0.mk (M3.out.trans hm4)
  have hle4 : base ≤ w4.heap.size := Nat.le_trans hle3 hm4.size
  clear hN4 hm4
  go_wp2_with fail
  refine (double_any ⟨3, 2, 0, 0, 0, [mA, mB]⟩ A4 c4 xs4 base p (fun q => base ≤ q) 0 w4 N4.out hle4 (fun k hk => Nat.le_trans hle4 hk) ⟨by show (0:Int) ≤ 0; decide, by show (0:Int) < 4611686018427387904; decide⟩).mono ?_
  rintro e w5 ⟨he, ⟨A5, c5, xs5, hN5⟩, hm5⟩
  rw [st3] at he hN5
  dsimp only at he hN5
  subst he
  have N5 := Aside0.mk hN5.within
  have M5 := Aside0.mk (M4.out.trans hm5)
  have hle5 : base ≤ w5.heap.size := Nat.le_trans hle4 hm5.size
  clear hN5 hm5
  go_wp2_with fail
  refine (deliver_any ⟨3, 2, 1, 0, 0, [mA, mB, mA]⟩ A5 c5 xs5 base p _ 1 w5 N5.out hle5 ⟨by show (0:Int) ≤ 0; decide, by show (0:Int) < 4611686018427387904; decide⟩).mono ?_
  rintro e w6 ⟨v6, b6, A6, c6, xs6, he, hN6, hv6, _, hm6⟩
  rw [st4] at he hN6 hv6
  dsimp only at he hN6 hv6
  obtain ⟨V6, d6, rfl⟩ := Kd.R_slice hv6
  subst he
  obtain ⟨b8, hb8⟩ : ∃ b, b = w6.heap.size := ⟨_, rfl⟩
  obtain ⟨W6, h6, k6, s6, B6⟩ := grow (W := w6) hb8.symm #[.int .i64 mB.src, .int .i64 mB.dst, .int .i64 mB.kind, .int .i64 mB.pos, .slice V6 mB.body.length d6] 32
  have N6 := Aside0.mk (hN6.below B6)
  have M6 := Aside0.mk ((M5.out.trans (hm6.mono (S' := fun k => k = p ∨ base ≤ k) (fun q h => h.imp (fun h => h) (fun h => h.1)))).trans (Mod.of_below B6))
  have hle6 : base ≤ W6.heap.size := Nat.le_trans hle5 (Nat.le_trans hm6.size B6.size)
  have K6 := Aside0.mk k6
  have H6 := Lib.hid h6
  have HB8 := Lib.hid hb8
  have HB8w := Lib.hid (show w5.heap.size ≤ b8 from by rw [hb8]; exact hm6.size)
  clear hN6 hm6 hv6 h6 k6 s6 B6 hb8
  go_wp2_with fail
  rw [← H6.out, ← HB8.out]
  refine (deliver_any ⟨3, 2, 1, 0, 1, [mA, mA]⟩ A6 c6 xs6 base p _ 1 W6 N6.out hle6 ⟨by show (0:Int) ≤ 1; decide, by show (1:Int) < 4611686018427387904; decide⟩).mono ?_
  rintro e w7 ⟨v7, b7, A7, c7, xs7, he, hN7, hv7, _, hm7⟩
  rw [st5] at he hN7 hv7
  dsimp only at he hN7 hv7
  obtain ⟨V7, d7, rfl⟩ := Kd.R_slice hv7
  subst he
  obtain ⟨b10, hb10⟩ : ∃ b, b = w7.heap.size := ⟨_, rfl⟩
  obtain ⟨W7, h7, k7, s7, B7⟩ := grow (W := w7) hb10.symm #[.int .i64 mA.src, .int .i64 mA.dst, .int .i64 mA.kind, .int .i64 mA.pos, .slice V7 mA.body.length d7] 32
  have N7 := Aside0.mk (hN7.below B7)
  have hb8p : b8 ≠ p := by have := N7.out.pb; have := HB8w.out; omega
  have HB8P := Lib.hid hb8p
  have K7 := Aside0.mk k7
  have K67 := Aside0.mk (blk_below (blk_mod K6.out hm7 (fun h => h.elim hb8p (fun h => by have := h.2; have := HB8w.out; omega))) B7)
  have M7 := Aside0.mk ((M6.out.trans (hm7.mono (S' := fun k => k = p ∨ base ≤ k) (fun q h => h.imp (fun h => h) (fun h => h.1)))).trans (Mod.of_below B7))
  have hle7 : base ≤ W7.heap.size := Nat.le_trans hle6 (Nat.le_trans hm7.size B7.size)
  have H7 := Lib.hid h7
  have HB10 := Lib.hid hb10
  have HB10w := Lib.hid (show w5.heap.size ≤ b10 from by rw [hb10]; have := hm7.size; have := HB8w.out; have := blk_lt K6.out; omega)
  clear hN7 hm7 hv7 h7 k7 s7 B7 hb10 hb8p
  go_wp2_with fail
  rw [← H7.out, ← HB10.out]
  refine (deliver_any ⟨3, 2, 1, 0, 2, [mA]⟩ A7 c7 xs7 base p _ 1 W7 N7.out hle7 ⟨by show (0:Int) ≤ 2; decide, by show (2:Int) < 4611686018427387904; decide⟩).mono ?_
  rintro e w8 ⟨v8, bb8, A8, c8, xs8, he, hN8, hv8, _, hm8⟩
  rw [st6] at he hN8 hv8
  dsimp only at he hN8 hv8
  obtain ⟨V8, d8, rfl⟩ := Kd.R_slice hv8
  subst he
  obtain ⟨b12, hb12⟩ : ∃ b, b = w8.heap.size := ⟨_, rfl⟩
  obtain ⟨W8, h8, k8, s8, B8⟩ := grow (W := w8) hb12.symm #[.int .i64 (default : Msg).src, .int .i64 (default : Msg).dst, .int .i64 (default : Msg).kind, .int .i64 (default : Msg).pos, .slice V8 (default : Msg).body.length d8] 32
  have N8 := Aside0.mk (hN8.below B8)
  have hb10p : b10 ≠ p := by have := N8.out.pb; have := HB10w.out; omega
  have HB10P := Lib.hid hb10p
  have K78 := Aside0.mk (blk_below (blk_mod K7.out hm8 (fun h => h.elim hb10p (fun h => by have := h.2; have := HB10w.out; omega))) B8)
  have K68 := Aside0.mk (blk_below (blk_mod K67.out hm8 (fun h => h.elim HB8P.out (fun h => by have := h.2; have := HB8w.out; omega))) B8)
  have M8 := Aside0.mk ((M7.out.trans (hm8.mono (S' := fun k => k = p ∨ base ≤ k) (fun q h => h.imp (fun h => h) (fun h => h.1)))).trans (Mod.of_below B8))
  have hle8 : base ≤ W8.heap.size := Nat.le_trans hle7 (Nat.le_trans hm8.size B8.size)
  have H8 := Lib.hid h8
  have HB12 := Lib.hid hb12
  clear hN8 hm8 hv8 h8 k8 s8 B8 hb12 hb10p
  go_wp2_with fail
  rw [← H8.out, ← HB12.out]
  refine (lose_any ⟨3, 2, 1, 0, 2, [mA]⟩ A8 c8 xs8 base p _ 0 W8 N8.out hle8 ⟨by show (0:Int) ≤ 0; decide, by show (0:Int) < 4611686018427387904; decide⟩).mono ?_
  rintro e w9 ⟨he, ⟨A9, c9, xs9, hN9⟩, hm9⟩
  rw [st7] at he hN9
  dsimp only at he hN9
  subst he
  have N9 := Aside0.mk hN9
  have K9 := Aside0.mk (blk_mod K68.out hm9 (fun h => h.elim HB8P.out (fun h => by have := h.2; have := HB8w.out; omega)))
  have K79 := Aside0.mk (blk_mod K78.out hm9 (fun h => h.elim HB10P.out (fun h => by have := h.2; have := HB10w.out; omega)))
  have M9 := Aside0.mk (M8.out.trans (hm9.mono (S' := fun k => k = p ∨ base ≤ k) (fun q h => h.imp (fun h => h) (fun h => h.1))))
  clear hN9 hm9
  go_wp2_with fail
  refine (counts_any ⟨3, 2, 1, 1, 2, []⟩ _ p w9 N9.out.blk).mono ?_
  rintro e w10 ⟨rfl, md, rfl⟩
  have x0 : (w9.drewN md).cell? ⟨b8, 0, none⟩ = some (.int .i64 mB.src) := blk_cell K9.out 0
  have x1 : (w9.drewN md).cell? ⟨b10, 3, none⟩ = some (.int .i64 mA.pos) := blk_cell K79.out 3
  go_wp2_with fail
  go_ret
  exact ⟨rfl, pw_below_drewN (Mod.below B1.out M9.out (by have := HS1.out; have := HP.out; omega) (fun i hi => by have := HP.out; have := HBASE.out; have := HS1.out; omega)) _⟩
end Go.Proofs.Ytlnneaccgfakeaa
