/- Layer 23: the walks of plays, case by case. -/
import Derived.Test.YtlnneaccgfakeaaK16
set_option linter.unusedVariables false
set_option linter.unusedSimpArgs false
namespace Go.Proofs.Ytlnneaccgfakeaa
open Go.RowKit Go.Proofs.YtlnneaccgfakeaaW.PrintWords Go.Proofs.YtlnneaccgfakeaaW.PrintLast
set_option maxRecDepth 100000 in
set_option maxHeartbeats 8000000 in
theorem plays_deliver (n : NS) (x : Opn) (B : Option Addr) (d : Nat) (w : World) (base p r : Nat) (K : Int) (W0 : World) (hB0 : Below W0.heap.size W0 w) (hp0 : W0.heap.size ≤ p) (hr0 : W0.heap.size ≤ r) (hD0 : HDuo w base p r n) (hC : Kd.string.C W0 B x.m.body.length x.m.body) (hz : x.m.body.length * 16 ≤ 140737488355328)
    (hK : NB n K) (hK2 : K < 4611686018427387904) (hw : x.what = 2) :
    Calls Try.prog 16 #[.pointer (some ⟨p, 0, none⟩), .pointer (some ⟨r, 0, none⟩), .agg #[.int .i64 x.what, .int .i64 x.at_, .int .i64 x.m.src, .int .i64 x.m.dst, .int .i64 x.m.kind, .int .i64 x.m.pos, .slice B x.m.body.length d]] w (PlPost base p r n.nodes K w) := by
  obtain ⟨okP, okQ, A, c, xs, A', c', hD⟩ := hD0
  have D := Aside0.mk hD
  have NBK := Lib.hid hK
  obtain ⟨b5, hb5⟩ : ∃ q, q = w.heap.size := ⟨_, rfl⟩
  obtain ⟨W1, h1, k1, s1, B1⟩ := grow (W := w) hb5.symm #[.int .i64 x.what, .int .i64 x.at_, .int .i64 x.m.src, .int .i64 x.m.dst, .int .i64 x.m.kind, .int .i64 x.m.pos, .slice B x.m.body.length d] 34
  have D1 := Aside0.mk (hD.below B1)
  have HB1 := Aside0.mk B1
  have K1 := Aside0.mk k1
  have H1 := Lib.hid h1
  have HB5 := Lib.hid hb5
  have S1 := Lib.hid s1
  have HC0 := Aside0.mk hC
  have BW0 := Aside0.mk hB0
  have BW1 := Aside0.mk (below_then hB0 hB0.size B1)
  have HC1 := Aside0.mk (Kd.C_below hC BW1.out)
  have hpb : p < base := hD.P.pb
  have hrb : r < base := hD.R.pb
  have hbw : base ≤ w.heap.size := hD.hb
  have h5w : w.heap.size ≤ b5 := by omega
  have h51 : b5 < W1.heap.size := by omega
  have HNE := Lib.hid hD.ne
  have HW := Lib.hid hw
  have q0 : W1.cell? ⟨b5, 0, none⟩ = some (.int .i64 x.what) := blk_cell k1 0
  have q1 : W1.cell? ⟨b5, 1, none⟩ = some (.int .i64 x.at_) := blk_cell k1 1
  have q2 : W1.cell? ⟨b5, 2, none⟩ = some (.int .i64 x.m.src) := blk_cell k1 2
  have q3 : W1.cell? ⟨b5, 3, none⟩ = some (.int .i64 x.m.dst) := blk_cell k1 3
  have q4 : W1.cell? ⟨b5, 4, none⟩ = some (.int .i64 x.m.kind) := blk_cell k1 4
  have q5 : W1.cell? ⟨b5, 5, none⟩ = some (.int .i64 x.m.pos) := blk_cell k1 5
  have q6 : W1.cell? ⟨b5, 6, none⟩ = some (.slice B x.m.body.length d) := blk_cell k1 6
  have HS0 := Lib.hid (show ∀ q, (q = p ∨ q = r ∨ base ≤ q) → W0.heap.size ≤ q from fun q h => by omega)
  clear hD hK hC hB0 hw h1 k1 s1 B1 hb5
  go_enter Try.func16, Try.ntmps16
  go_upto_region 1 with (fail)
  rw [← H1.out, ← HB5.out]
  have p1 : (x.what == 1) = false := int_beq_false (by rw [HW.out]; decide)
  have p2 : (x.what == 2) = true := int_beq_true (by rw [HW.out])
  go_wp2_with fail
  refine (deliver_any n A c xs base p okP x.at_ W1 D1.out.P (by omega) ⟨NBK.out.2.2.2.1, Int.lt_of_le_of_lt NBK.out.2.2.2.2 hK2⟩).mono ?_
  obtain ⟨⟨⟨m, er⟩, n2⟩, hdl⟩ : ∃ y, y = n.deliver x.at_ := ⟨_, rfl⟩
  rw [← hdl]
  rintro e w2 ⟨v, b, A2, c2, xs2, rfl, hN2, hRb, hne, hm2⟩
  dsimp only at hN2 hRb
  obtain ⟨V, vc, rfl⟩ := Kd.R_slice hRb
  obtain ⟨b11, hb11⟩ : ∃ q, q = w2.heap.size := ⟨_, rfl⟩
  obtain ⟨W2, h2, k2, s2, B2⟩ := grow (W := w2) hb11.symm #[.int .i64 m.src, .int .i64 m.dst, .int .i64 m.kind, .int .i64 m.pos, .slice V m.body.length vc] 32
  have hS2 : ∀ q, w.heap.size ≤ q → ¬ (q = p ∨ okP q) := fun q hq h => h.elim (fun h => by omega) (fun h => by have := (D.out.bP q h).2; omega)
  have N2 := Aside0.mk (hN2.below B2)
  have R2 := Aside0.mk ((D1.out.R.mod hm2 (fun h => h.elim (fun h => HNE.out h.symm) (fun h => by have := (D.out.bP r h).1; omega)) (fun q hq h => h.elim (fun h => by have := (D.out.bQ q hq).1; omega) (fun h => D.out.dis q h hq))).below B2)
  have K2 := Aside0.mk k2
  have K12 := Aside0.mk (blk_below (blk_mod K1.out hm2 (hS2 b5 h5w)) B2)
  have HRb := Aside0.mk (Kd.R_below hRb B2)
  have HNEB := Lib.hid hne
  have MT2 := Aside0.mk (((Mod.of_below (S := fun q => q = p ∨ q = r ∨ base ≤ q) HB1.out).trans (hm2.mono (fun q h => h.elim .inl (fun h => .inr (.inr (D.out.bP q h).1))))).trans (Mod.of_below B2))
  have HDL := Lib.hid hdl
  have h12 := hm2.size
  have h2s := B2.size
  have H2 := Lib.hid h2
  have HB11 := Lib.hid hb11
  have h11w : w.heap.size ≤ b11 := by omega
  have h11l : b11 < W2.heap.size := by omega
  have h1w := HB1.out.size
  clear hN2 hRb hne hm2 hS2 h2 k2 s2 B2 hb11 hdl q0 q1 q2 q3 q4 q5 q6
  have z1 : (w2.alloc (.cells #[.int .i64 m.src, .int .i64 m.dst, .int .i64 m.kind, .int .i64 m.pos, .slice V m.body.length vc] 32)).cell? ⟨b5, 1, none⟩ = some (.int .i64 x.at_) := by rw [← H2.out]; exact blk_cell K12.out 1
  go_wp2_with fail
  rw [← H2.out, ← HB11.out]
  refine (rdeliver_any n A' c' base r okQ x.at_ W2 R2.out (by omega) ⟨NBK.out.2.2.2.1, Int.lt_of_le_of_lt NBK.out.2.2.2.2 hK2⟩).mono ?_
  rintro e w3 ⟨U, ud, A3, c3, rfl, hR3, hCu, hm3⟩
  rw [← HDL.out] at hR3 hCu ⊢
  dsimp only at hR3 hCu ⊢
  obtain ⟨b13, hb13⟩ : ∃ q, q = w3.heap.size := ⟨_, rfl⟩
  obtain ⟨W3, h3, k3, s3, B3⟩ := grow (W := w3) hb13.symm #[.int .i64 m.src, .int .i64 m.dst, .int .i64 m.kind, .int .i64 m.pos, .slice U m.body.length ud] 32
  have hS3 : ∀ q, w.heap.size ≤ q → ¬ (q = r ∨ okQ q) := fun q hq h => h.elim (fun h => by omega) (fun h => by have := (D.out.bQ q h).2; omega)
  have hP3 : ∀ q, okP q → ¬ (q = r ∨ okQ q) := fun q hq h => h.elim (fun h => by have := (D.out.bP q hq).1; omega) (fun h => D.out.dis q hq h)
  have N3 := Aside0.mk ((N2.out.mod hm3 (fun h => h.elim HNE.out (fun h => by have := (D.out.bQ p h).1; omega)) hP3).below B3)
  have R3 := Aside0.mk (hR3.below B3)
  have K3 := Aside0.mk k3
  have K23 := Aside0.mk (blk_below (blk_mod K2.out hm3 (hS3 b11 h11w)) B3)
  have HRc := Aside0.mk (Kd.R_below (Kd.R_step HRb.out (fun q hq hl => hm3.block q hl (hP3 q hq.1.1))) B3)
  have HCU := Aside0.mk (Kd.C_below hCu B3)
  have MT3 := Aside0.mk ((MT2.out.trans (hm3.mono (fun q h => h.elim (fun h => .inr (.inl h)) (fun h => .inr (.inr (D.out.bQ q h).1))))).trans (Mod.of_below B3))
  have h23 := hm3.size
  have h3s := B3.size
  have H3 := Lib.hid h3
  have HB13 := Lib.hid hb13
  have h113 : b11 < W3.heap.size := by omega
  clear hR3 hCu hm3 hS3 hP3 h3 k3 s3 B3 hb13 z1
  have y0 : (w3.alloc (.cells #[.int .i64 m.src, .int .i64 m.dst, .int .i64 m.kind, .int .i64 m.pos, .slice U m.body.length ud] 32)).cell? ⟨b11, 0, none⟩ = some (.int .i64 m.src) := by rw [← H3.out]; exact blk_cell K23.out 0
  have y1 : (w3.alloc (.cells #[.int .i64 m.src, .int .i64 m.dst, .int .i64 m.kind, .int .i64 m.pos, .slice U m.body.length ud] 32)).cell? ⟨b11, 1, none⟩ = some (.int .i64 m.dst) := by rw [← H3.out]; exact blk_cell K23.out 1
  have y2 : (w3.alloc (.cells #[.int .i64 m.src, .int .i64 m.dst, .int .i64 m.kind, .int .i64 m.pos, .slice U m.body.length ud] 32)).cell? ⟨b11, 2, none⟩ = some (.int .i64 m.kind) := by rw [← H3.out]; exact blk_cell K23.out 2
  have y3 : (w3.alloc (.cells #[.int .i64 m.src, .int .i64 m.dst, .int .i64 m.kind, .int .i64 m.pos, .slice U m.body.length ud] 32)).cell? ⟨b11, 3, none⟩ = some (.int .i64 m.pos) := by rw [← H3.out]; exact blk_cell K23.out 3
  have y4 : (w3.alloc (.cells #[.int .i64 m.src, .int .i64 m.dst, .int .i64 m.kind, .int .i64 m.pos, .slice U m.body.length ud] 32)).cell? ⟨b11, 4, none⟩ = some (.slice V m.body.length vc) := by rw [← H3.out]; exact blk_cell K23.out 4
  go_wp2_with fail
  rw [← H3.out]
  refine (same_any m m V U vc ud W3 (Kd.R_reads' HRc.out).2.2 HCU.out).mono ?_
  rintro e w6 ⟨rfl, hB6⟩
  rw [decide_eq_true rfl]
  have N6 := Aside0.mk (N3.out.below hB6)
  have R6 := Aside0.mk (R3.out.below hB6)
  have K6 := Aside0.mk (blk_below K23.out hB6)
  have HR6 := Aside0.mk (Kd.R_below HRc.out hB6)
  have MT6 := Aside0.mk (MT3.out.trans (Mod.of_below hB6))
  have h56 := hB6.size
  clear hB6 y0 y1 y2 y3 y4
  have y0 : w6.cell? ⟨b11, 0, none⟩ = some (.int .i64 m.src) := blk_cell K6.out 0
  have y1 : w6.cell? ⟨b11, 1, none⟩ = some (.int .i64 m.dst) := blk_cell K6.out 1
  have y2 : w6.cell? ⟨b11, 2, none⟩ = some (.int .i64 m.kind) := blk_cell K6.out 2
  have y3 : w6.cell? ⟨b11, 3, none⟩ = some (.int .i64 m.pos) := blk_cell K6.out 3
  have y4 : w6.cell? ⟨b11, 4, none⟩ = some (.slice V m.body.length vc) := blk_cell K6.out 4
  obtain ⟨b9, hb9⟩ : ∃ q, q = w6.heap.size := ⟨_, rfl⟩
  obtain ⟨W7, h7, k7, s7, B7⟩ := grow (W := w6) hb9.symm #[.int .i64 m.src, .int .i64 m.dst, .int .i64 m.kind, .int .i64 m.pos, .slice V m.body.length vc] 32
  have K7 := Aside0.mk k7
  have H7 := Lib.hid h7
  have HB9 := Lib.hid hb9
  have R7 := Aside0.mk (R6.out.below B7)
  have HR7 := Aside0.mk (Kd.R_below HR6.out B7)
  have B67 := Aside0.mk B7
  have h67 := B7.size
  have h69 : w6.heap.size ≤ b9 := by omega
  clear h7 k7 s7 B7 hb9
  go_wp2_with fail
  rw [← H7.out, ← HB9.out]
  have hsh : ShMsg W7 (fun q => q = b9 ∨ ((okP q ∧ some q ≠ (Value.slice A2 xs2.length c2).ownBlock) ∧ q = b)) (.slice (some ⟨b9, 0, none⟩) 1 1) := shMsg_one K7.out (.inl rfl) (shStr_of (Kd.R_mono HR7.out (fun q h => .inr h)))
  refine (overwritten_any _ _ 1 1 W7 hsh).mono ?_
  rintro e w8 ⟨rfl, hkin⟩
  have hM8 := hkin.mod
  have hM68 : Mod w6 w8 (fun q => (okP q ∧ some q ≠ (Value.slice A2 xs2.length c2).ownBlock) ∧ q = b) :=
    (Mod.of_below (S := fun q => (okP q ∧ some q ≠ (Value.slice A2 xs2.length c2).ownBlock) ∧ q = b) B67.out).then_new hM8 (fun i hi h => h.elim (fun h => by omega) (fun h => h))
  have N8 := Aside0.mk (N6.out.but (S := fun q => (okP q ∧ some q ≠ (Value.slice A2 xs2.length c2).ownBlock) ∧ q = b) (fun q h => ⟨h.2, h.1.2⟩) HNEB.out (fun h => by have := (D.out.bP p h.1.1).1; omega) hM68)
  have R8 := Aside0.mk (R6.out.mod hM68 (fun h => by have := (D.out.bP r h.1.1).1; omega) (fun q hq h => D.out.dis q h.1.1 hq))
  have MT8 := Aside0.mk (MT6.out.trans (hM68.mono (fun q h => .inr (.inr (D.out.bP q h.1.1).1))))
  have h68 := hM68.size
  have he := int_beq_true (a := er) rfl
  clear hsh hkin hM8 hM68 y0 y1 y2 y3 y4
  go_wp2_with fail
  go_ret
  have hnb := nb_deliver NBK.out x.at_
  rw [← HDL.out] at hnb
  exact ⟨rfl, ⟨n2, hnb.1, hnb.2, duo_mk N8.out R8.out (fun q hq h1 h2 => D.out.dis q h1 h2) HNE.out (by omega)⟩, MT8.out⟩
set_option maxRecDepth 100000 in
set_option maxHeartbeats 8000000 in
theorem plays_double (n : NS) (x : Opn) (B : Option Addr) (d : Nat) (w : World) (base p r : Nat) (K : Int) (W0 : World) (hB0 : Below W0.heap.size W0 w) (hp0 : W0.heap.size ≤ p) (hr0 : W0.heap.size ≤ r) (hD0 : HDuo w base p r n) (hC : Kd.string.C W0 B x.m.body.length x.m.body) (hz : x.m.body.length * 16 ≤ 140737488355328)
    (hK : NB n K) (hK2 : K < 4611686018427387904) (hw : x.what = 3) :
    Calls Try.prog 16 #[.pointer (some ⟨p, 0, none⟩), .pointer (some ⟨r, 0, none⟩), .agg #[.int .i64 x.what, .int .i64 x.at_, .int .i64 x.m.src, .int .i64 x.m.dst, .int .i64 x.m.kind, .int .i64 x.m.pos, .slice B x.m.body.length d]] w (PlPost base p r n.nodes K w) := by
  obtain ⟨okP, okQ, A, c, xs, A', c', hD⟩ := hD0
  have D := Aside0.mk hD
  have NBK := Lib.hid hK
  obtain ⟨b5, hb5⟩ : ∃ q, q = w.heap.size := ⟨_, rfl⟩
  obtain ⟨W1, h1, k1, s1, B1⟩ := grow (W := w) hb5.symm #[.int .i64 x.what, .int .i64 x.at_, .int .i64 x.m.src, .int .i64 x.m.dst, .int .i64 x.m.kind, .int .i64 x.m.pos, .slice B x.m.body.length d] 34
  have D1 := Aside0.mk (hD.below B1)
  have HB1 := Aside0.mk B1
  have K1 := Aside0.mk k1
  have H1 := Lib.hid h1
  have HB5 := Lib.hid hb5
  have S1 := Lib.hid s1
  have HC0 := Aside0.mk hC
  have BW0 := Aside0.mk hB0
  have BW1 := Aside0.mk (below_then hB0 hB0.size B1)
  have HC1 := Aside0.mk (Kd.C_below hC BW1.out)
  have hpb : p < base := hD.P.pb
  have hrb : r < base := hD.R.pb
  have hbw : base ≤ w.heap.size := hD.hb
  have h5w : w.heap.size ≤ b5 := by omega
  have h51 : b5 < W1.heap.size := by omega
  have HNE := Lib.hid hD.ne
  have HW := Lib.hid hw
  have q0 : W1.cell? ⟨b5, 0, none⟩ = some (.int .i64 x.what) := blk_cell k1 0
  have q1 : W1.cell? ⟨b5, 1, none⟩ = some (.int .i64 x.at_) := blk_cell k1 1
  have q2 : W1.cell? ⟨b5, 2, none⟩ = some (.int .i64 x.m.src) := blk_cell k1 2
  have q3 : W1.cell? ⟨b5, 3, none⟩ = some (.int .i64 x.m.dst) := blk_cell k1 3
  have q4 : W1.cell? ⟨b5, 4, none⟩ = some (.int .i64 x.m.kind) := blk_cell k1 4
  have q5 : W1.cell? ⟨b5, 5, none⟩ = some (.int .i64 x.m.pos) := blk_cell k1 5
  have q6 : W1.cell? ⟨b5, 6, none⟩ = some (.slice B x.m.body.length d) := blk_cell k1 6
  have HS0 := Lib.hid (show ∀ q, (q = p ∨ q = r ∨ base ≤ q) → W0.heap.size ≤ q from fun q h => by omega)
  clear hD hK hC hB0 hw h1 k1 s1 B1 hb5
  go_enter Try.func16, Try.ntmps16
  go_upto_region 1 with (fail)
  rw [← H1.out, ← HB5.out]
  have p1 : (x.what == 1) = false := int_beq_false (by rw [HW.out]; decide)
  have p2 : (x.what == 2) = false := int_beq_false (by rw [HW.out]; decide)
  have p3 : (x.what == 3) = true := int_beq_true (by rw [HW.out])
  go_wp2_with fail
  refine (double_any n A c xs base p (fun q => okP q ∨ W1.heap.size ≤ q) x.at_ W1 (D1.out.P.wide (fun q h => .inl h) (fun h => h.elim D1.out.P.pok (fun h => by omega))) (by omega) (fun k hk => .inr hk) ⟨NBK.out.2.1.1, Int.lt_of_le_of_lt NBK.out.2.1.2 hK2⟩).mono ?_
  rintro e w4 ⟨rfl, ⟨A4, c4, xs4, hN4⟩, hm4⟩
  have hM4 : Mod W1 w4 (fun q => q = p ∨ okP q) := ⟨hm4.os, hm4.tape, hm4.output, hm4.size, fun i hi h => hm4.block i hi (fun hh => h (hh.imp (fun h => h) (fun hh => hh.elim (fun h => h) (fun hh => by omega))))⟩
  have N4 := Aside0.mk hN4.bound
  have R4 := Aside0.mk (D1.out.R.mod hM4 (fun h => h.elim (fun h => HNE.out h.symm) (fun h => by have := (D.out.bP r h).1; omega)) (fun q hq h => h.elim (fun h => by have := (D.out.bQ q hq).1; omega) (fun h => D.out.dis q h hq)))
  have K14 := Aside0.mk (blk_mod K1.out hM4 (fun h => h.elim (fun h => by omega) (fun h => by have := (D.out.bP b5 h).2; omega)))
  have MT4 := Aside0.mk ((Mod.of_below (S := fun q => q = p ∨ q = r ∨ base ≤ q) HB1.out).trans (hM4.mono (fun q h => h.elim .inl (fun h => .inr (.inr (D.out.bP q h).1)))))
  have h34 := hM4.size
  have h1w := HB1.out.size
  clear hN4 hm4 hM4 q0 q1 q2 q3 q4 q5 q6
  have q1 : w4.cell? ⟨b5, 1, none⟩ = some (.int .i64 x.at_) := blk_cell K14.out 1
  go_wp2_with fail
  refine (rdouble_any n A' c' base r (fun q => okQ q ∨ w4.heap.size ≤ q) x.at_ w4 (R4.out.wide (fun q h => .inl h) (fun h => h.elim R4.out.pok (fun h => by omega))) (by omega) (fun q h => .inr h) ⟨NBK.out.2.1.1, Int.lt_of_le_of_lt NBK.out.2.1.2 hK2⟩).mono ?_
  rintro e w5 ⟨rfl, ⟨A5, c5, hR5⟩, hm5⟩
  have hM5 : Mod w4 w5 (fun q => q = r ∨ okQ q) := ⟨hm5.os, hm5.tape, hm5.output, hm5.size, fun i hi h => hm5.block i hi (fun hh => h (hh.imp (fun h => h) (fun hh => hh.elim (fun h => h) (fun hh => by omega))))⟩
  have N5 := Aside0.mk (N4.out.mod hM5 (fun h => h.elim HNE.out (fun h => by have := (D.out.bQ p h).1; omega)) (fun q hq h => h.elim (fun h => by have := hq.2.1; omega) (fun h => hq.1.elim (fun hp => D.out.dis q hp h) (fun hp => by have := (D.out.bQ q h).2; omega))))
  have R5 := Aside0.mk hR5.bound
  have MT5 := Aside0.mk (MT4.out.trans (hM5.mono (fun q h => h.elim (fun h => .inr (.inl h)) (fun h => .inr (.inr (D.out.bQ q h).1)))))
  have h45 := hM5.size
  have he := int_beq_true (a := (n.double x.at_).1) rfl
  clear hR5 hm5 hM5 q1
  go_wp2_with fail
  go_ret
  refine ⟨rfl, ⟨(n.double x.at_).2, (nb_double NBK.out x.at_).1, (nb_double NBK.out x.at_).2, duo_mk N5.out R5.out (fun q hq h1 h2 => ?_) HNE.out (by omega)⟩, MT5.out⟩
  rcases h1.1 with h1' | h1' <;> rcases h2.1 with h2' | h2'
  · exact D.out.dis q h1' h2'
  · have := (D.out.bP q h1').2; omega
  · have := (D.out.bQ q h2').2; omega
  · have := h1.2.2; omega
set_option maxRecDepth 100000 in
set_option maxHeartbeats 8000000 in
theorem plays_lose (n : NS) (x : Opn) (B : Option Addr) (d : Nat) (w : World) (base p r : Nat) (K : Int) (W0 : World) (hB0 : Below W0.heap.size W0 w) (hp0 : W0.heap.size ≤ p) (hr0 : W0.heap.size ≤ r) (hD0 : HDuo w base p r n) (hC : Kd.string.C W0 B x.m.body.length x.m.body) (hz : x.m.body.length * 16 ≤ 140737488355328)
    (hK : NB n K) (hK2 : K < 4611686018427387904) (hw : x.what = 4) :
    Calls Try.prog 16 #[.pointer (some ⟨p, 0, none⟩), .pointer (some ⟨r, 0, none⟩), .agg #[.int .i64 x.what, .int .i64 x.at_, .int .i64 x.m.src, .int .i64 x.m.dst, .int .i64 x.m.kind, .int .i64 x.m.pos, .slice B x.m.body.length d]] w (PlPost base p r n.nodes K w) := by
  obtain ⟨okP, okQ, A, c, xs, A', c', hD⟩ := hD0
  have D := Aside0.mk hD
  have NBK := Lib.hid hK
  obtain ⟨b5, hb5⟩ : ∃ q, q = w.heap.size := ⟨_, rfl⟩
  obtain ⟨W1, h1, k1, s1, B1⟩ := grow (W := w) hb5.symm #[.int .i64 x.what, .int .i64 x.at_, .int .i64 x.m.src, .int .i64 x.m.dst, .int .i64 x.m.kind, .int .i64 x.m.pos, .slice B x.m.body.length d] 34
  have D1 := Aside0.mk (hD.below B1)
  have HB1 := Aside0.mk B1
  have K1 := Aside0.mk k1
  have H1 := Lib.hid h1
  have HB5 := Lib.hid hb5
  have S1 := Lib.hid s1
  have HC0 := Aside0.mk hC
  have BW0 := Aside0.mk hB0
  have BW1 := Aside0.mk (below_then hB0 hB0.size B1)
  have HC1 := Aside0.mk (Kd.C_below hC BW1.out)
  have hpb : p < base := hD.P.pb
  have hrb : r < base := hD.R.pb
  have hbw : base ≤ w.heap.size := hD.hb
  have h5w : w.heap.size ≤ b5 := by omega
  have h51 : b5 < W1.heap.size := by omega
  have HNE := Lib.hid hD.ne
  have HW := Lib.hid hw
  have q0 : W1.cell? ⟨b5, 0, none⟩ = some (.int .i64 x.what) := blk_cell k1 0
  have q1 : W1.cell? ⟨b5, 1, none⟩ = some (.int .i64 x.at_) := blk_cell k1 1
  have q2 : W1.cell? ⟨b5, 2, none⟩ = some (.int .i64 x.m.src) := blk_cell k1 2
  have q3 : W1.cell? ⟨b5, 3, none⟩ = some (.int .i64 x.m.dst) := blk_cell k1 3
  have q4 : W1.cell? ⟨b5, 4, none⟩ = some (.int .i64 x.m.kind) := blk_cell k1 4
  have q5 : W1.cell? ⟨b5, 5, none⟩ = some (.int .i64 x.m.pos) := blk_cell k1 5
  have q6 : W1.cell? ⟨b5, 6, none⟩ = some (.slice B x.m.body.length d) := blk_cell k1 6
  have HS0 := Lib.hid (show ∀ q, (q = p ∨ q = r ∨ base ≤ q) → W0.heap.size ≤ q from fun q h => by omega)
  clear hD hK hC hB0 hw h1 k1 s1 B1 hb5
  go_enter Try.func16, Try.ntmps16
  go_upto_region 1 with (fail)
  rw [← H1.out, ← HB5.out]
  have p1 : (x.what == 1) = false := int_beq_false (by rw [HW.out]; decide)
  have p2 : (x.what == 2) = false := int_beq_false (by rw [HW.out]; decide)
  have p3 : (x.what == 3) = false := int_beq_false (by rw [HW.out]; decide)
  have p4 : (x.what == 4) = true := int_beq_true (by rw [HW.out])
  go_wp2_with fail
  refine (lose_any n A c xs base p okP x.at_ W1 D1.out.P (by omega) ⟨NBK.out.2.2.1.1, Int.lt_of_le_of_lt NBK.out.2.2.1.2 hK2⟩).mono ?_
  rintro e w4 ⟨rfl, ⟨A4, c4, xs4, hN4⟩, hM4⟩
  have N4 := Aside0.mk hN4
  have R4 := Aside0.mk (D1.out.R.mod hM4 (fun h => h.elim (fun h => HNE.out h.symm) (fun h => by have := (D.out.bP r h).1; omega)) (fun q hq h => h.elim (fun h => by have := (D.out.bQ q hq).1; omega) (fun h => D.out.dis q h hq)))
  have K14 := Aside0.mk (blk_mod K1.out hM4 (fun h => h.elim (fun h => by omega) (fun h => by have := (D.out.bP b5 h).2; omega)))
  have MT4 := Aside0.mk ((Mod.of_below (S := fun q => q = p ∨ q = r ∨ base ≤ q) HB1.out).trans (hM4.mono (fun q h => h.elim .inl (fun h => .inr (.inr (D.out.bP q h).1)))))
  have h34 := hM4.size
  have h1w := HB1.out.size
  clear hN4 hM4 q0 q1 q2 q3 q4 q5 q6
  have q1 : w4.cell? ⟨b5, 1, none⟩ = some (.int .i64 x.at_) := blk_cell K14.out 1
  go_wp2_with fail
  refine (rlose_any n A' c' base r okQ x.at_ w4 R4.out (by omega) ⟨NBK.out.2.2.1.1, Int.lt_of_le_of_lt NBK.out.2.2.1.2 hK2⟩).mono ?_
  rintro e w5 ⟨rfl, ⟨A5, c5, hR5⟩, hM5⟩
  have N5 := Aside0.mk (N4.out.mod hM5 (fun h => h.elim HNE.out (fun h => by have := (D.out.bQ p h).1; omega)) (fun q hq h => h.elim (fun h => by have := (D.out.bP q hq).1; omega) (fun h => D.out.dis q hq h)))
  have R5 := Aside0.mk hR5
  have MT5 := Aside0.mk (MT4.out.trans (hM5.mono (fun q h => h.elim (fun h => .inr (.inl h)) (fun h => .inr (.inr (D.out.bQ q h).1)))))
  have h45 := hM5.size
  have he := int_beq_true (a := (n.lose x.at_).1) rfl
  clear hR5 hM5 q1
  go_wp2_with fail
  go_ret
  exact ⟨rfl, ⟨(n.lose x.at_).2, (nb_lose NBK.out x.at_).1, (nb_lose NBK.out x.at_).2, duo_mk N5.out R5.out (fun q hq h1 h2 => D.out.dis q h1 h2) HNE.out (by omega)⟩, MT5.out⟩
set_option maxRecDepth 100000 in
set_option maxHeartbeats 8000000 in
theorem plays_under (n : NS) (x : Opn) (B : Option Addr) (d : Nat) (w : World) (base p r : Nat) (K : Int) (W0 : World) (hB0 : Below W0.heap.size W0 w) (hp0 : W0.heap.size ≤ p) (hr0 : W0.heap.size ≤ r) (hD0 : HDuo w base p r n) (hC : Kd.string.C W0 B x.m.body.length x.m.body) (hz : x.m.body.length * 16 ≤ 140737488355328)
    (hK : NB n K) (hK2 : K < 4611686018427387904) (hw : x.what ≠ 1 ∧ x.what ≠ 2 ∧ x.what ≠ 3 ∧ x.what ≠ 4) :
    Calls Try.prog 16 #[.pointer (some ⟨p, 0, none⟩), .pointer (some ⟨r, 0, none⟩), .agg #[.int .i64 x.what, .int .i64 x.at_, .int .i64 x.m.src, .int .i64 x.m.dst, .int .i64 x.m.kind, .int .i64 x.m.pos, .slice B x.m.body.length d]] w (PlPost base p r n.nodes K w) := by
  obtain ⟨okP, okQ, A, c, xs, A', c', hD⟩ := hD0
  have D := Aside0.mk hD
  have NBK := Lib.hid hK
  obtain ⟨b5, hb5⟩ : ∃ q, q = w.heap.size := ⟨_, rfl⟩
  obtain ⟨W1, h1, k1, s1, B1⟩ := grow (W := w) hb5.symm #[.int .i64 x.what, .int .i64 x.at_, .int .i64 x.m.src, .int .i64 x.m.dst, .int .i64 x.m.kind, .int .i64 x.m.pos, .slice B x.m.body.length d] 34
  have D1 := Aside0.mk (hD.below B1)
  have HB1 := Aside0.mk B1
  have K1 := Aside0.mk k1
  have H1 := Lib.hid h1
  have HB5 := Lib.hid hb5
  have S1 := Lib.hid s1
  have HC0 := Aside0.mk hC
  have BW0 := Aside0.mk hB0
  have BW1 := Aside0.mk (below_then hB0 hB0.size B1)
  have HC1 := Aside0.mk (Kd.C_below hC BW1.out)
  have hpb : p < base := hD.P.pb
  have hrb : r < base := hD.R.pb
  have hbw : base ≤ w.heap.size := hD.hb
  have h5w : w.heap.size ≤ b5 := by omega
  have h51 : b5 < W1.heap.size := by omega
  have HNE := Lib.hid hD.ne
  have HW := Lib.hid hw
  have q0 : W1.cell? ⟨b5, 0, none⟩ = some (.int .i64 x.what) := blk_cell k1 0
  have q1 : W1.cell? ⟨b5, 1, none⟩ = some (.int .i64 x.at_) := blk_cell k1 1
  have q2 : W1.cell? ⟨b5, 2, none⟩ = some (.int .i64 x.m.src) := blk_cell k1 2
  have q3 : W1.cell? ⟨b5, 3, none⟩ = some (.int .i64 x.m.dst) := blk_cell k1 3
  have q4 : W1.cell? ⟨b5, 4, none⟩ = some (.int .i64 x.m.kind) := blk_cell k1 4
  have q5 : W1.cell? ⟨b5, 5, none⟩ = some (.int .i64 x.m.pos) := blk_cell k1 5
  have q6 : W1.cell? ⟨b5, 6, none⟩ = some (.slice B x.m.body.length d) := blk_cell k1 6
  have HS0 := Lib.hid (show ∀ q, (q = p ∨ q = r ∨ base ≤ q) → W0.heap.size ≤ q from fun q h => by omega)
  clear hD hK hC hB0 hw h1 k1 s1 B1 hb5
  go_enter Try.func16, Try.ntmps16
  go_upto_region 1 with (fail)
  rw [← H1.out, ← HB5.out]
  have p1 : (x.what == 1) = false := int_beq_false HW.out.1
  have p2 : (x.what == 2) = false := int_beq_false HW.out.2.1
  have p3 : (x.what == 3) = false := int_beq_false HW.out.2.2.1
  have p4 : (x.what == 4) = false := int_beq_false HW.out.2.2.2
  go_wp2_with fail
  refine (under_any n A c xs base p okP W1 D1.out.P).mono ?_
  rintro e w2 ⟨v, rfl, hRl, hB2⟩
  obtain ⟨V, vc, rfl⟩ := Kd.R_slice hRl
  have D2 := Aside0.mk (D1.out.below hB2)
  have HRl := Aside0.mk hRl
  have HB2 := Aside0.mk (below_then HB1.out HB1.out.size hB2)
  have h1w := HB1.out.size
  have h12 := hB2.size
  clear hRl hB2 q0 q1 q2 q3 q4 q5 q6
  have f1 := D2.out.R.f1
  go_wp2_with fail
  refine (sameAll_any n.l n.l V A' vc c' w2 (Kd.R_reads' HRl.out).2.2 (Kd.R_reads' D2.out.R.row).2.2).mono ?_
  rintro e w3 ⟨rfl, hB3⟩
  rw [decide_eq_true rfl]
  have D3 := Aside0.mk (D2.out.below hB3)
  have HR3 := Aside0.mk (Kd.R_below HRl.out hB3)
  have HB3 := Aside0.mk (below_then HB2.out HB2.out.size hB3)
  have h23 := hB3.size
  clear hB3 f1
  go_wp2_with fail
  refine (overwritten_any (fun q => W1.heap.size ≤ q) V n.l.length vc w3 (shMsg_of HR3.out)).mono ?_
  rintro e w4 ⟨rfl, hkin⟩
  have hM4 := hkin.mod
  have N4 := Aside0.mk (D3.out.P.mod hM4 (by omega) (fun q hq h => by have := (D.out.bP q hq).2; omega))
  have R4 := Aside0.mk (D3.out.R.mod hM4 (by omega) (fun q hq h => by have := (D.out.bQ q hq).2; omega))
  have MT4 := Aside0.mk ((Mod.of_below (S := fun q => q = p ∨ q = r ∨ base ≤ q) HB3.out).trans (hM4.mono (fun q h => .inr (.inr (by omega)))))
  have h34 := hM4.size
  clear hkin hM4
  go_wp2_with fail
  refine (counts_any n _ p w4 N4.out.blk).mono ?_
  rintro e w5 ⟨rfl, md, rfl⟩
  have g2 : (w4.drewN md).cell? ⟨r, 2, none⟩ = some (.int .i64 n.sent) := blk_cell R4.out.blk 2
  have g3 : (w4.drewN md).cell? ⟨r, 3, none⟩ = some (.int .i64 n.doubled) := blk_cell R4.out.blk 3
  have g4 : (w4.drewN md).cell? ⟨r, 4, none⟩ = some (.int .i64 n.lost) := blk_cell R4.out.blk 4
  have g5 : (w4.drewN md).cell? ⟨r, 5, none⟩ = some (.int .i64 n.delivered) := blk_cell R4.out.blk 5
  have e1 := int_beq_true (a := n.sent) rfl
  have e2 := int_beq_true (a := n.doubled) rfl
  have e3 := int_beq_true (a := n.lost) rfl
  have e4 := int_beq_true (a := n.delivered) rfl
  go_wp2_with fail
  go_ret
  exact ⟨rfl, ⟨n, NBK.out.more, rfl, duo_mk (N4.out.below (pw_below_drewN (Below.refl _ _) _)) (R4.out.below (pw_below_drewN (Below.refl _ _) _)) (fun q hq h1 h2 => D.out.dis q h1 h2) HNE.out (by show base ≤ w4.heap.size; omega)⟩, MT4.out.drewN _⟩
theorem plays_any (n : NS) (x : Opn) (B : Option Addr) (d : Nat) (w : World) (base p r : Nat) (K : Int) (W0 : World) (hB0 : Below W0.heap.size W0 w) (hp0 : W0.heap.size ≤ p) (hr0 : W0.heap.size ≤ r) (hD0 : HDuo w base p r n) (hC : Kd.string.C W0 B x.m.body.length x.m.body) (hz : x.m.body.length * 16 ≤ 140737488355328)
    (hK : NB n K) (hK2 : K < 4611686018427387904) :
    Calls Try.prog 16 #[.pointer (some ⟨p, 0, none⟩), .pointer (some ⟨r, 0, none⟩), .agg #[.int .i64 x.what, .int .i64 x.at_, .int .i64 x.m.src, .int .i64 x.m.dst, .int .i64 x.m.kind, .int .i64 x.m.pos, .slice B x.m.body.length d]] w (PlPost base p r n.nodes K w) := by
  by_cases h1 : x.what = 1
  · exact plays_send n x B d w base p r K W0 hB0 hp0 hr0 hD0 hC hz hK hK2 h1
  by_cases h2 : x.what = 2
  · exact plays_deliver n x B d w base p r K W0 hB0 hp0 hr0 hD0 hC hz hK hK2 h2
  by_cases h3 : x.what = 3
  · exact plays_double n x B d w base p r K W0 hB0 hp0 hr0 hD0 hC hz hK hK2 h3
  by_cases h4 : x.what = 4
  · exact plays_lose n x B d w base p r K W0 hB0 hp0 hr0 hD0 hC hz hK hK2 h4
  exact plays_under n x B d w base p r K W0 hB0 hp0 hr0 hD0 hC hz hK hK2 ⟨h1, h2, h3, h4⟩
end Go.Proofs.Ytlnneaccgfakeaa
