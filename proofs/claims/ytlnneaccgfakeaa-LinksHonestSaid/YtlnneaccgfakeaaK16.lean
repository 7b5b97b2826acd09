/- Layer 23: the walks of plays, case by case. -/
import Derived.Test.YtlnneaccgfakeaaK15
set_option linter.unusedVariables false
set_option linter.unusedSimpArgs false
namespace Go.Proofs.Ytlnneaccgfakeaa
open Go.RowKit Go.Proofs.YtlnneaccgfakeaaW.PrintWords Go.Proofs.YtlnneaccgfakeaaW.PrintLast
set_option maxRecDepth 100000 in
set_option maxHeartbeats 8000000 in
theorem plays_send (n : NS) (x : Opn) (B : Option Addr) (d : Nat) (w : World) (base p r : Nat) (K : Int) (W0 : World) (hB0 : Below W0.heap.size W0 w) (hp0 : W0.heap.size ≤ p) (hr0 : W0.heap.size ≤ r) (hD0 : HDuo w base p r n) (hC : Kd.string.C W0 B x.m.body.length x.m.body) (hz : x.m.body.length * 16 ≤ 140737488355328)
    (hK : NB n K) (hK2 : K < 4611686018427387904) (hw : x.what = 1) :
    Calls Try.prog 16 #[.pointer (some ⟨p, 0, none⟩), .pointer (some ⟨r, 0, none⟩), .agg #[.int .i64 x.what, .int .i64 x.at_, .int .i64 x.m.src, .int .i64 x.m.dst, .int .i64 x.m.kind, .int .i64 x.m.pos, .slice B x.m.body.length d]] w (PlPost base p r n.nodes K w) := by
  obtain ⟨okP, okQ, A, c, xs, A', c', hD⟩ := hD0
  have D := Aside0.mk hD
  have NBK := Lib.hid hK
  obtain ⟨b5, hb5⟩ : ∃ q, q = w.heap.size := ⟨_, rfl⟩
  obtain ⟨W1, h1, k1, s1, B1⟩ := grow (W := w) hb5.symm #[.int .i64 x.what, .int .i64 x.at_, .int .i64 x.m.src, .int .i64 x.m.dst, .int .i64 x.m.kind, .int .i64 x.m.pos, .slice B x.m.body.length d] 34
  have D1 := Aside0.mk (hD.below B1)
  have HB1 := Aside0.mk B1
  have K1 := Aside0.mk k1
  have H1 := Lib.hid h1
  have HB5 := Lib.hid hb5
  have S1 := Lib.hid s1
  have HC0 := Aside0.mk hC
  have BW0 := Aside0.mk hB0
  have BW1 := Aside0.mk (below_then hB0 hB0.size B1)
  have HC1 := Aside0.mk (Kd.C_below hC BW1.out)
  have hpb : p < base := hD.P.pb
  have hrb : r < base := hD.R.pb
  have hbw : base ≤ w.heap.size := hD.hb
  have h5w : w.heap.size ≤ b5 := by omega
  have h51 : b5 < W1.heap.size := by omega
  have HNE := Lib.hid hD.ne
  have HW := Lib.hid hw
  have q0 : W1.cell? ⟨b5, 0, none⟩ = some (.int .i64 x.what) := blk_cell k1 0
  have q1 : W1.cell? ⟨b5, 1, none⟩ = some (.int .i64 x.at_) := blk_cell k1 1
  have q2 : W1.cell? ⟨b5, 2, none⟩ = some (.int .i64 x.m.src) := blk_cell k1 2
  have q3 : W1.cell? ⟨b5, 3, none⟩ = some (.int .i64 x.m.dst) := blk_cell k1 3
  have q4 : W1.cell? ⟨b5, 4, none⟩ = some (.int .i64 x.m.kind) := blk_cell k1 4
  have q5 : W1.cell? ⟨b5, 5, none⟩ = some (.int .i64 x.m.pos) := blk_cell k1 5
  have q6 : W1.cell? ⟨b5, 6, none⟩ = some (.slice B x.m.body.length d) := blk_cell k1 6
  have HS0 := Lib.hid (show ∀ q, (q = p ∨ q = r ∨ base ≤ q) → W0.heap.size ≤ q from fun q h => by omega)
  clear hD hK hC hB0 hw h1 k1 s1 B1 hb5
  go_enter Try.func16, Try.ntmps16
  go_upto_region 1 with (fail)
  rw [← H1.out, ← HB5.out]
  have p1 : (x.what == 1) = true := int_beq_true HW.out
  go_wp2_with fail
  refine (Of_any x.m B d W1 HC1.out hz).mono ?_
  rintro e w2 ⟨v, b, rfl, hR2, hb1, hb2, hB2⟩
  obtain ⟨V, vc, rfl⟩ := Kd.R_slice hR2
  obtain ⟨b7, hb7⟩ : ∃ q, q = w2.heap.size := ⟨_, rfl⟩
  obtain ⟨W3, h3, k3, s3, B3⟩ := grow (W := w2) hb7.symm #[.int .i64 x.m.src, .int .i64 x.m.dst, .int .i64 x.m.kind, .int .i64 x.m.pos, .slice V x.m.body.length vc] 32
  have D3 := Aside0.mk ((D1.out.below hB2).below B3)
  have HB3 := Aside0.mk (below_then (below_then HB1.out HB1.out.size hB2) (Nat.le_trans HB1.out.size hB2.size) B3)
  have K3 := Aside0.mk k3
  have K13 := Aside0.mk (blk_below (blk_below K1.out hB2) B3)
  have HC3 := Aside0.mk (Kd.C_below (Kd.C_below HC1.out hB2) B3)
  have HR3 := Aside0.mk (Kd.R_below hR2 B3)
  have H3 := Lib.hid h3
  have HB7 := Lib.hid hb7
  have h7w : w.heap.size ≤ b7 := by have := HB1.out.size; have := hB2.size; omega
  have h73 : b7 < W3.heap.size := by omega
  have h53 : b5 < W3.heap.size := by have := hB2.size; omega
  have hbbw : w.heap.size ≤ b := by have := HB1.out.size; omega
  have hbb3 : b < W3.heap.size := by omega
  have hw3 : w.heap.size ≤ W3.heap.size := by omega
  clear hR2 hb1 hb2 hB2 h3 k3 s3 B3 hb7 q0 q1 q2 q3 q4 q5 q6
  go_wp2_with fail
  rw [← H3.out, ← HB7.out]
  refine (send_any n A c xs base p (fun q => okP q ∨ W3.heap.size ≤ q) x.m V vc W3 (D3.out.P.wide (fun q h => .inl h) (fun h => h.elim D3.out.P.pok (fun h => by omega))) (by omega) (fun k hk => .inr hk) (Kd.R_reads' HR3.out).2.2 hz ⟨NBK.out.1.1, Int.lt_of_le_of_lt NBK.out.1.2 hK2⟩).mono ?_
  rintro e w4 ⟨rfl, ⟨A4, c4, xs4, hN4⟩, hm4⟩
  have hM4 : Mod W3 w4 (fun q => q = p ∨ okP q) := ⟨hm4.os, hm4.tape, hm4.output, hm4.size, fun i hi h => hm4.block i hi (fun hh => h (hh.imp (fun h => h) (fun hh => hh.elim (fun h => h) (fun hh => by omega))))⟩
  have hS4 : ∀ q, w.heap.size ≤ q → ¬ (q = p ∨ okP q) := fun q hq h => h.elim (fun h => by omega) (fun h => by have := (D.out.bP q h).2; omega)
  have N4 := Aside0.mk hN4.bound
  have R4 := Aside0.mk (D3.out.R.mod hM4 (fun h => h.elim (fun h => HNE.out h.symm) (fun h => by have := (D.out.bP r h).1; omega)) (fun q hq h => h.elim (fun h => by have := (D.out.bQ q hq).1; omega) (fun h => D.out.dis q h hq)))
  have K4 := Aside0.mk (blk_mod K3.out hM4 (hS4 b7 h7w))
  have K14 := Aside0.mk (blk_mod K13.out hM4 (hS4 b5 h5w))
  have HR4 := Aside0.mk (Kd.R_step HR3.out (fun q hq hl => hM4.block q hl (hS4 q (by rw [hq]; exact hbbw))))
  have MT4 := Aside0.mk ((Mod.of_below (S := fun q => q = p ∨ q = r ∨ base ≤ q) HB3.out).trans (hM4.mono (fun q h => h.elim .inl (fun h => .inr (.inr (D.out.bP q h).1)))))
  have BW4 := Aside0.mk (Mod.below BW0.out MT4.out BW0.out.size HS0.out)
  have h34 := hM4.size
  clear hN4 hm4 hM4 hS4
  have q2 : w4.cell? ⟨b5, 2, none⟩ = some (.int .i64 x.m.src) := blk_cell K14.out 2
  have q3 : w4.cell? ⟨b5, 3, none⟩ = some (.int .i64 x.m.dst) := blk_cell K14.out 3
  have q4 : w4.cell? ⟨b5, 4, none⟩ = some (.int .i64 x.m.kind) := blk_cell K14.out 4
  have q5 : w4.cell? ⟨b5, 5, none⟩ = some (.int .i64 x.m.pos) := blk_cell K14.out 5
  have q6 : w4.cell? ⟨b5, 6, none⟩ = some (.slice B x.m.body.length d) := blk_cell K14.out 6
  go_wp2_with fail
  have hok5 : ∀ q, w4.heap.size ≤ q → (okQ q ∨ w4.heap.size ≤ q) := fun q h => .inr h
  refine (rsend_any n A' c' base r (fun q => okQ q ∨ w4.heap.size ≤ q) x.m B d w4 (R4.out.wide (fun q h => .inl h) (fun h => h.elim R4.out.pok (fun h => by omega))) (by omega) hok5 (Kd.C_below HC0.out BW4.out) hz ⟨NBK.out.1.1, Int.lt_of_le_of_lt NBK.out.1.2 hK2⟩).mono ?_
  rintro e w5 ⟨rfl, ⟨A5, c5, hR5⟩, hm5⟩
  have hM5 : Mod w4 w5 (fun q => q = r ∨ okQ q) := ⟨hm5.os, hm5.tape, hm5.output, hm5.size, fun i hi h => hm5.block i hi (fun hh => h (hh.imp (fun h => h) (fun hh => hh.elim (fun h => h) (fun hh => by omega))))⟩
  have hS5 : ∀ q, w.heap.size ≤ q → ¬ (q = r ∨ okQ q) := fun q hq h => h.elim (fun h => by omega) (fun h => by have := (D.out.bQ q h).2; omega)
  have N5 := Aside0.mk (N4.out.mod hM5 (fun h => h.elim HNE.out (fun h => by have := (D.out.bQ p h).1; omega)) (fun q hq h => h.elim (fun h => by have := hq.2.1; omega) (fun h => hq.1.elim (fun hp => D.out.dis q hp h) (fun hp => by have := (D.out.bQ q h).2; omega))))
  have R5 := Aside0.mk hR5.bound
  have K5 := Aside0.mk (blk_mod K4.out hM5 (hS5 b7 h7w))
  have K15 := Aside0.mk (blk_mod K14.out hM5 (hS5 b5 h5w))
  have HR5 := Aside0.mk (Kd.R_step HR4.out (fun q hq hl => hM5.block q hl (hS5 q (by rw [hq]; exact hbbw))))
  have MT5 := Aside0.mk (MT4.out.trans (hM5.mono (fun q h => h.elim (fun h => .inr (.inl h)) (fun h => .inr (.inr (D.out.bQ q h).1)))))
  have BW5 := Aside0.mk (Mod.below BW0.out MT5.out BW0.out.size HS0.out)
  have h45 := hM5.size
  clear hR5 hm5 hM5 hS5 hok5 q2 q3 q4 q5 q6
  have q2 : w5.cell? ⟨b5, 2, none⟩ = some (.int .i64 x.m.src) := blk_cell K15.out 2
  have q3 : w5.cell? ⟨b5, 3, none⟩ = some (.int .i64 x.m.dst) := blk_cell K15.out 3
  have q4 : w5.cell? ⟨b5, 4, none⟩ = some (.int .i64 x.m.kind) := blk_cell K15.out 4
  have q5 : w5.cell? ⟨b5, 5, none⟩ = some (.int .i64 x.m.pos) := blk_cell K15.out 5
  have q6 : w5.cell? ⟨b5, 6, none⟩ = some (.slice B x.m.body.length d) := blk_cell K15.out 6
  have y0 : w5.cell? ⟨b7, 0, none⟩ = some (.int .i64 x.m.src) := blk_cell K5.out 0
  have y1 : w5.cell? ⟨b7, 1, none⟩ = some (.int .i64 x.m.dst) := blk_cell K5.out 1
  have y2 : w5.cell? ⟨b7, 2, none⟩ = some (.int .i64 x.m.kind) := blk_cell K5.out 2
  have y3 : w5.cell? ⟨b7, 3, none⟩ = some (.int .i64 x.m.pos) := blk_cell K5.out 3
  have y4 : w5.cell? ⟨b7, 4, none⟩ = some (.slice V x.m.body.length vc) := blk_cell K5.out 4
  go_wp2_with fail
  refine (same_any x.m x.m V B vc d w5 (Kd.R_reads' HR5.out).2.2 (Kd.C_below HC0.out BW5.out)).mono ?_
  rintro e w6 ⟨rfl, hB6⟩
  rw [decide_eq_true rfl]
  have N6 := Aside0.mk (N5.out.below hB6)
  have R6 := Aside0.mk (R5.out.below hB6)
  have K6 := Aside0.mk (blk_below K5.out hB6)
  have HR6 := Aside0.mk (Kd.R_below HR5.out hB6)
  have MT6 := Aside0.mk (MT5.out.trans (Mod.of_below hB6))
  have h56 := hB6.size
  clear hB6 q2 q3 q4 q5 q6 y0 y1 y2 y3 y4
  have y0 : w6.cell? ⟨b7, 0, none⟩ = some (.int .i64 x.m.src) := blk_cell K6.out 0
  have y1 : w6.cell? ⟨b7, 1, none⟩ = some (.int .i64 x.m.dst) := blk_cell K6.out 1
  have y2 : w6.cell? ⟨b7, 2, none⟩ = some (.int .i64 x.m.kind) := blk_cell K6.out 2
  have y3 : w6.cell? ⟨b7, 3, none⟩ = some (.int .i64 x.m.pos) := blk_cell K6.out 3
  have y4 : w6.cell? ⟨b7, 4, none⟩ = some (.slice V x.m.body.length vc) := blk_cell K6.out 4
  obtain ⟨b9, hb9⟩ : ∃ q, q = w6.heap.size := ⟨_, rfl⟩
  obtain ⟨W7, h7, k7, s7, B7⟩ := grow (W := w6) hb9.symm #[.int .i64 x.m.src, .int .i64 x.m.dst, .int .i64 x.m.kind, .int .i64 x.m.pos, .slice V x.m.body.length vc] 32
  have K7 := Aside0.mk k7
  have H7 := Lib.hid h7
  have HB9 := Lib.hid hb9
  have N7 := Aside0.mk (N6.out.below B7)
  have R7 := Aside0.mk (R6.out.below B7)
  have HR7 := Aside0.mk (Kd.R_below HR6.out B7)
  have MT7 := Aside0.mk (MT6.out.trans (Mod.of_below B7))
  have h67 := B7.size
  have h69 : w6.heap.size ≤ b9 := by omega
  clear h7 k7 s7 B7 hb9
  go_wp2_with fail
  rw [← H7.out, ← HB9.out]
  have hsh : ShMsg W7 (fun q => q = b9 ∨ q = b) (.slice (some ⟨b9, 0, none⟩) 1 1) := shMsg_one K7.out (.inl rfl) (shStr_of (Kd.R_mono HR7.out (fun q h => .inr h)))
  refine (overwritten_any (fun q => q = b9 ∨ q = b) _ 1 1 W7 hsh).mono ?_
  rintro e w8 ⟨rfl, hkin⟩
  have hM8 := hkin.mod
  have N8 := Aside0.mk (N7.out.mod hM8 (fun h => by omega) (fun q hq h => by have h1 := hq.2.2; rcases h with h | h; · omega
                                                                             · subst h; exact hq.1.elim (fun hp => by have := (D.out.bP q hp).2; omega) (fun hp => by omega)))
  have R8 := Aside0.mk (R7.out.mod hM8 (fun h => by omega) (fun q hq h => by have h1 := hq.2.2; rcases h with h | h; · omega
                                                                             · subst h; exact hq.1.elim (fun hp => by have := (D.out.bQ q hp).2; omega) (fun hp => by omega)))
  have MT8 := Aside0.mk (MT7.out.trans (hM8.mono (fun q h => .inr (.inr (by omega)))))
  have h78 := hM8.size
  have he := int_beq_true (a := (n.send x.m).1) rfl
  clear hsh hkin hM8 y0 y1 y2 y3 y4
  go_wp2_with fail
  go_ret
  refine ⟨rfl, ⟨(n.send x.m).2, (nb_send NBK.out x.m).1, (nb_send NBK.out x.m).2, duo_mk N8.out R8.out (fun q hq h1 h2 => ?_) HNE.out (by omega)⟩, MT8.out⟩
  rcases h1.1 with h1' | h1' <;> rcases h2.1 with h2' | h2'
  · exact D.out.dis q h1' h2'
  · have := (D.out.bP q h1').2; omega
  · have := (D.out.bQ q h2').2; omega
  · have := h1.2.2; omega
end Go.Proofs.Ytlnneaccgfakeaa
