/- Layer 23: the walks of the reference's Deliver, Lose. -/
import Derived.Test.YtlnneaccgfakeaaK11
set_option linter.unusedVariables false
set_option linter.unusedSimpArgs false
namespace Go.Proofs.Ytlnneaccgfakeaa
open Go.RowKit Go.Proofs.YtlnneaccgfakeaaW.PrintWords Go.Proofs.YtlnneaccgfakeaaW.PrintLast
def RDStep (base p : Nat) (ok : Nat → Prop) (m : Msg) (er : Int) (n : NS) (w : World) (e : Ending) (w' : World) : Prop :=
  ∃ B d A c, e = .returned (.tuple #[.agg #[.int .i64 m.src, .int .i64 m.dst, .int .i64 m.kind, .int .i64 m.pos, .slice B m.body.length d], .int .i64 er]) ∧ RNet w' base p ok n A c ∧
    Kd.string.C w' B m.body.length m.body ∧ Mod w w' (fun k => k = p ∨ ok k)
set_option maxRecDepth 100000 in
set_option maxHeartbeats 8000000 in
theorem rdeliver_lt (n : NS) (A : Option Addr) (c : Nat) (base p : Nat) (ok : Nat → Prop) (i : Int) (w : World) (hN : RNet w base p ok n A c) (hb0 : base ≤ w.heap.size) (hlt : ∀ q, ok q → q < w.heap.size)
    (hs : 0 ≤ n.delivered ∧ n.delivered < 4611686018427387904) :
    Calls Try.prog 25 #[.pointer (some ⟨p, 0, none⟩), .int .i64 i] w (RDStep base p ok (n.deliver i).1.1 (n.deliver i).1.2 (n.deliver i).2 w) := by
  have HS := Lib.hid hs
  have HN := Aside0.mk hN
  obtain ⟨bx, hbx⟩ : ∃ q, q = w.heap.size := ⟨_, rfl⟩
  obtain ⟨W1, h1, b1, s1, B1⟩ := grow (W := w) hbx.symm #[.int .i64 0, .int .i64 0, .int .i64 0, .int .i64 0, .slice none 0 0] 32
  have HBX := Lib.hid hbx
  have HN1 := Aside0.mk (hN.below B1)
  have HB1 := Aside0.mk B1
  have BX := Aside0.mk b1
  have S1 := Lib.hid s1
  have H1 := Lib.hid h1
  have hf1 : (w.alloc (.cells #[.int .i64 0, .int .i64 0, .int .i64 0, .int .i64 0, .slice none 0 0] 32)).cell? ⟨p, 1, none⟩ = some (.slice A n.l.length c) := by rw [← h1]; exact HN1.out.f1
  have hg1 : W1.cell? ⟨p, 1, none⟩ = some (.slice A n.l.length c) := HN1.out.f1
  have z0 : W1.cell? ⟨bx, 0, none⟩ = some (.int .i64 0) := blk_cell BX.out 0
  have z1 : W1.cell? ⟨bx, 1, none⟩ = some (.int .i64 0) := blk_cell BX.out 1
  have z2 : W1.cell? ⟨bx, 2, none⟩ = some (.int .i64 0) := blk_cell BX.out 2
  have z3 : W1.cell? ⟨bx, 3, none⟩ = some (.int .i64 0) := blk_cell BX.out 3
  have z4 : W1.cell? ⟨bx, 4, none⟩ = some (.slice none 0 0) := blk_cell BX.out 4
  have z5 : ∀ i, W1.frozen? ⟨bx, i, none⟩ = false := fun i => blk_frozen BX.out i
  have h2 : bx < W1.heap.size := blk_lt BX.out
  clear hN hs hbx h1 b1 s1 B1
  go_enter Try.func25, Try.ntmps25
  go_upto_region 1 with (fail)
  rw [← H1.out, ← HBX.out]
  clear hf1
  by_cases c1 : i < 0
  case pos =>
    have hno : ¬ n.isAt i := fun h => by have := h.1; omega
    have HNO := Lib.hid hno
    clear hno
    go_wp2_with fail
    obtain ⟨w3, hw3, b3, m3, s3⟩ := put5 BX.out (.int .i64 0) (.int .i64 0) (.int .i64 0) (.int .i64 0) (.slice none 0 0)
    rw [← hw3]
    refine bodyPost_ret (results_row_tmp rfl _ _ bx 32 _ (0, 0) _ rfl b3 Try.underlying32 rfl (by kernel_rfl)) rfl ?_
    have hx := HBX.out
    have hm : Mod w w3 (fun _ => False) := (Mod.of_below HB1.out).then_new m3 (fun i hi he => by omega)
    rw [deliver_no HNO.out]
    exact ⟨none, 0, A, c, rfl, HN.out.mod hm (fun h => h) (fun _ _ h => h), Kd.C_nil _ _, hm.mono (fun _ h => h.elim)⟩
  by_cases c2 : (n.l.length : Int) ≤ i
  case pos =>
    have hno : ¬ n.isAt i := fun h => by have := h.2; omega
    have HNO := Lib.hid hno
    clear hno
    go_wp2_with fail
    obtain ⟨w3, hw3, b3, m3, s3⟩ := put5 BX.out (.int .i64 0) (.int .i64 0) (.int .i64 0) (.int .i64 0) (.slice none 0 0)
    rw [← hw3]
    refine bodyPost_ret (results_row_tmp rfl _ _ bx 32 _ (0, 0) _ rfl b3 Try.underlying32 rfl (by kernel_rfl)) rfl ?_
    have hx := HBX.out
    have hm : Mod w w3 (fun _ => False) := (Mod.of_below HB1.out).then_new m3 (fun i hi he => by omega)
    rw [deliver_no HNO.out]
    exact ⟨none, 0, A, c, rfl, HN.out.mod hm (fun h => h) (fun _ _ h => h), Kd.C_nil _ _, hm.mono (fun _ h => h.elim)⟩
  have hat : n.isAt i := ⟨by omega, by omega⟩
  have HAT := Lib.hid hat
  obtain ⟨k, rfl⟩ := Int.eq_ofNat_of_zero_le hat.1
  have hk : k < n.l.length := by omega
  have hs1 := HS.out.1
  have hs2 := HS.out.2
  clear hat
  obtain ⟨g, cap, hv, _, _, _⟩ := Kd.R_form HN1.out.row (by omega)
  obtain ⟨rfl, rfl⟩ : A = some ⟨g, 0, none⟩ ∧ c = cap := by injection hv with h1 h2 h3; exact ⟨h1, h3⟩
  obtain ⟨cs, hcl, hM, hcell, _⟩ := Kd.R_elem HN1.out.row default (k : Int) (by omega) (by omega)
  rw [Int.toNat_natCast] at hM hcell
  obtain ⟨m, hx⟩ : ∃ x, x = n.l.getD k default := ⟨_, rfl⟩
  rw [← hx] at hM
  obtain ⟨v, rfl, hR⟩ := kMsg_M.1 hM
  obtain ⟨B, d, rfl⟩ := Kd.R_slice hR
  have q0 : W1.cell? ⟨g, k * 5, none⟩ = some (.int .i64 m.src) := hcell 0 _ rfl
  have q1 : W1.cell? ⟨g, k * 5 + 1, none⟩ = some (.int .i64 m.dst) := hcell 1 _ rfl
  have q2 : W1.cell? ⟨g, k * 5 + 2, none⟩ = some (.int .i64 m.kind) := hcell 2 _ rfl
  have q3 : W1.cell? ⟨g, k * 5 + 3, none⟩ = some (.int .i64 m.pos) := hcell 3 _ rfl
  have q4 : W1.cell? ⟨g, k * 5 + 4, none⟩ = some (.slice B m.body.length d) := hcell 4 _ rfl
  have HX := Lib.hid hx
  have p5 : (0 : Int) ≤ k := by omega
  have p6 : (k : Int) < n.l.length := by omega
  obtain ⟨b6, hb6⟩ : ∃ q, q = W1.heap.size := ⟨_, rfl⟩
  obtain ⟨W2, h2', e2, s2, B2⟩ := grow (W := W1) hb6.symm #[.int .i64 m.src, .int .i64 m.dst, .int .i64 m.kind, .int .i64 m.pos, .slice B m.body.length d] 32
  have HN2 := Aside0.mk (HN1.out.below B2)
  have HR2 := Aside0.mk (Kd.R_below hR B2)
  have HB2 := Aside0.mk (below_then HB1.out HB1.out.size B2)
  have C2 := Aside0.mk e2
  have CX := Aside0.mk (blk_below BX.out B2)
  have H2 := Lib.hid h2'
  have HB6 := Lib.hid hb6
  clear hv hcl hcell hM hx hR h2' e2 s2 B2 hb6
  go_wp2_with fail
  rw [← H2.out, ← HB6.out]
  refine (takes_any n (some ⟨g, 0, none⟩) c base p ok k W2 HN2.out (Nat.le_trans hb0 HB2.out.size) hk).mono ?_
  rintro e w3 ⟨rfl, hN3, hm3⟩
  have hbx := HBX.out
  have hb6 := HB6.out
  have hbxl := blk_lt BX.out
  have hgw : g < w.heap.size := Kd.R_lt HN.out.row g (by simp [Value.ownBlock])
  have hgo : ok g := HN.out.row.1 g (by simp [Value.ownBlock])
  have hpb := HN.out.pb
  have hm3' : Mod W2 w3 (fun q => q = p ∨ q = g) := hm3.mono (fun q h => h.imp (fun h => h) (fun h => by simp [Value.ownBlock] at h; exact h))
  have N3 := Aside0.mk hN3
  have HM3 := Aside0.mk hm3'
  have C3 := Aside0.mk (blk_mod C2.out hm3' (by omega))
  have X3 := Aside0.mk (blk_mod CX.out hm3' (by omega))
  have HBP := Lib.hid (show bx ≠ p ∧ b6 ≠ p ∧ bx ≠ g ∧ b6 ≠ g by omega)
  have HGW := Lib.hid hgw
  have HGO := Lib.hid hgo
  clear hN3 hm3 hm3' hbx hb6 hbxl hgw hgo hpb q0 q1 q2 q3 q4 z0 z1 z2 z3 z4 z5 hg1
  have y0 : w3.cell? ⟨p, 5, none⟩ = some (.int .i64 n.delivered) := blk_cell N3.out.blk 5
  have y1 : w3.frozen? ⟨p, 5, none⟩ = false := blk_frozen N3.out.blk 5
  have P5 := Aside0.mk (blk_put N3.out.blk 5 (.int .i64 (n.delivered + 1)) rfl)
  have C5 := Aside0.mk ((Below.heap_setCell w3 ⟨p, 5, none⟩ (.int .i64 (n.delivered + 1)) b6 HBP.out.2.1).trans C3.out)
  have X5 := Aside0.mk ((Below.heap_setCell w3 ⟨p, 5, none⟩ (.int .i64 (n.delivered + 1)) bx HBP.out.1).trans X3.out)
  have c0 : (w3.setCell ⟨p, 5, none⟩ (.int .i64 (n.delivered + 1))).cell? ⟨b6, 0, none⟩ = some (.int .i64 m.src) := blk_cell C5.out 0
  have c1 : (w3.setCell ⟨p, 5, none⟩ (.int .i64 (n.delivered + 1))).cell? ⟨b6, 1, none⟩ = some (.int .i64 m.dst) := blk_cell C5.out 1
  have c2 : (w3.setCell ⟨p, 5, none⟩ (.int .i64 (n.delivered + 1))).cell? ⟨b6, 2, none⟩ = some (.int .i64 m.kind) := blk_cell C5.out 2
  have c3 : (w3.setCell ⟨p, 5, none⟩ (.int .i64 (n.delivered + 1))).cell? ⟨b6, 3, none⟩ = some (.int .i64 m.pos) := blk_cell C5.out 3
  have c4 : (w3.setCell ⟨p, 5, none⟩ (.int .i64 (n.delivered + 1))).cell? ⟨b6, 4, none⟩ = some (.slice B m.body.length d) := blk_cell C5.out 4
  have x0 : (w3.setCell ⟨p, 5, none⟩ (.int .i64 (n.delivered + 1))).cell? ⟨bx, 0, none⟩ = some (.int .i64 0) := blk_cell X5.out 0
  have x1 : (w3.setCell ⟨p, 5, none⟩ (.int .i64 (n.delivered + 1))).cell? ⟨bx, 1, none⟩ = some (.int .i64 0) := blk_cell X5.out 1
  have x2 : (w3.setCell ⟨p, 5, none⟩ (.int .i64 (n.delivered + 1))).cell? ⟨bx, 2, none⟩ = some (.int .i64 0) := blk_cell X5.out 2
  have x3 : (w3.setCell ⟨p, 5, none⟩ (.int .i64 (n.delivered + 1))).cell? ⟨bx, 3, none⟩ = some (.int .i64 0) := blk_cell X5.out 3
  have x4 : (w3.setCell ⟨p, 5, none⟩ (.int .i64 (n.delivered + 1))).cell? ⟨bx, 4, none⟩ = some (.slice none 0 0) := blk_cell X5.out 4
  have x5 : ∀ i, (w3.setCell ⟨p, 5, none⟩ (.int .i64 (n.delivered + 1))).frozen? ⟨bx, i, none⟩ = false := fun i => blk_frozen X5.out i
  go_wp2_with fail
  obtain ⟨wf, hwf⟩ : ∃ u, u = (w3.setCell ⟨p, 5, none⟩ (.int .i64 (n.delivered + 1))) := ⟨_, rfl⟩
  have hp5 := P5.out
  have hx5 := X5.out
  rw [← hwf] at hp5 hx5 ⊢
  have hm5 : Mod w3 wf (fun q => q = p) := by rw [hwf]; exact mod_setCell w3 p 5 _
  obtain ⟨w6, hw6, b6', m6, s6⟩ := put5 hx5 (.int .i64 m.src) (.int .i64 m.dst) (.int .i64 m.kind) (.int .i64 m.pos) (.slice B m.body.length d)
  rw [← hw6]
  have hbx := HBX.out
  have hb6 := HB6.out
  have hbp := HBP.out
  have hgw := HGW.out
  have hpb := HN.out.pb
  have hmt : Mod w w6 (fun k => k = p ∨ ok k) := by
    refine (Mod.of_below HB2.out).then_new (S' := fun q => q = g ∨ q = p ∨ q = bx) ((HM3.out.mono (fun _ h => h.elim (fun h => .inr (.inl h)) .inl)).trans ((hm5.mono (fun _ h => .inr (.inl h))).trans (m6.mono (fun _ h => .inr (.inr h))))) (fun i hi h => ?_)
    rcases h with h | h | h
    · rw [h]; exact .inr HGO.out
    · exact .inl h
    · omega
  have hm36 : Mod w3 w6 (fun q => q = p ∨ q = bx) := (hm5.mono (fun _ h => .inl h)).trans (m6.mono (fun _ h => .inr h))
  have hm26 : Mod W2 w6 (fun q => (q = p ∨ q = g) ∨ q = bx) := (HM3.out.mono (fun _ h => .inl h)).trans (hm36.mono (fun _ h => h.elim (fun h => .inl (.inl h)) .inr))
  have hne : ∀ q, ok q → ¬ (q = p ∨ q = bx) := fun q hq h => by
    rcases h with h | h
    · exact HN.out.pok (h ▸ hq)
    · have := hlt q hq; omega
  refine bodyPost_ret (results_row_tmp rfl _ _ bx 32 _ (0, 0) _ rfl b6' Try.underlying32 rfl (by kernel_rfl)) rfl ?_
  rw [deliver_ok HAT.out (show n.l.getD (Int.toNat (k : Int)) default = m from by rw [Int.toNat_natCast]; exact HX.out.symm)]
  have hRb := Kd.R_step HR2.out (fun q hq hl => hm26.block q hl (fun h => by
    rcases h with (h | h) | h
    · exact hne q hq.1 (.inl h)
    · exact hq.2 (by rw [h])
    · exact hne q hq.1 (.inr h)))
  refine ⟨B, d, some ⟨g, 0, none⟩, c, rfl, ⟨?_, ?_, HN.out.pb, HN.out.pok, N3.out.cnt, N3.out.bd⟩, (Kd.R_reads' hRb).2.2, hmt⟩
  · exact blk_mod hp5 m6 (by omega)
  · exact Kd.R_step N3.out.row (fun q hq hl => hm36.block q hl (hne q hq))
theorem RNet.within {w : World} {base p : Nat} {ok : Nat → Prop} {n : NS} {A : Option Addr} {c : Nat} (h : RNet w base p ok n A c) : RNet w base p (fun q => ok q ∧ q < w.heap.size) n A c :=
  ⟨h.blk, Kd.R_mono (Kd.R_bound h.row) (fun q hq => ⟨hq.1, hq.2.2.1⟩), h.pb, fun hp => h.pok hp.1, h.cnt, h.bd⟩
theorem RNet.wide {w : World} {base p : Nat} {ok ok' : Nat → Prop} {n : NS} {A : Option Addr} {c : Nat} (h : RNet w base p ok n A c) (hok : ∀ q, ok q → ok' q) (hp : ¬ ok' p) : RNet w base p ok' n A c :=
  ⟨h.blk, Kd.R_mono h.row hok, h.pb, hp, h.cnt, h.bd⟩
theorem rdeliver_any (n : NS) (A : Option Addr) (c : Nat) (base p : Nat) (ok : Nat → Prop) (i : Int) (w : World) (hN : RNet w base p ok n A c) (hb0 : base ≤ w.heap.size)
    (hs : 0 ≤ n.delivered ∧ n.delivered < 4611686018427387904) :
    Calls Try.prog 25 #[.pointer (some ⟨p, 0, none⟩), .int .i64 i] w (RDStep base p ok (n.deliver i).1.1 (n.deliver i).1.2 (n.deliver i).2 w) :=
  (rdeliver_lt n A c base p _ i w hN.within hb0 (fun q hq => hq.2) hs).mono fun e w' ⟨B, d, A', c', h1, h2, h3, h5⟩ =>
    ⟨B, d, A', c', h1, h2.wide (fun q hq => hq.1) hN.pok, h3, h5.mono (fun q hq => hq.elim .inl (fun h => .inr h.1))⟩
set_option maxRecDepth 100000 in
set_option maxHeartbeats 4000000 in
theorem rlose_any (n : NS) (A : Option Addr) (c : Nat) (base p : Nat) (ok : Nat → Prop) (i : Int) (w : World) (hN : RNet w base p ok n A c) (hb0 : base ≤ w.heap.size)
    (hs : 0 ≤ n.lost ∧ n.lost < 4611686018427387904) :
    Calls Try.prog 27 #[.pointer (some ⟨p, 0, none⟩), .int .i64 i] w (RStep base p ok (.int .i64 (n.lose i).1) (n.lose i).2 w) := by
  have HS := Lib.hid hs
  have HN := Aside0.mk hN
  have hf1 := hN.f1
  clear hN hs
  go_enter Try.func27, Try.ntmps27
  by_cases c1 : i < 0
  case pos =>
    have hno : ¬ n.isAt i := fun h => by have := h.1; omega
    have HNO := Lib.hid hno
    clear hno
    go_wp2_with fail
    go_ret
    exact ⟨by rw [lose_no HNO.out]; rfl, ⟨A, c, by rw [lose_no HNO.out]; exact HN.out⟩, Mod.refl _ _⟩
  by_cases c2 : (n.l.length : Int) ≤ i
  case pos =>
    have hno : ¬ n.isAt i := fun h => by have := h.2; omega
    have HNO := Lib.hid hno
    clear hno
    go_wp2_with fail
    go_ret
    exact ⟨by rw [lose_no HNO.out]; rfl, ⟨A, c, by rw [lose_no HNO.out]; exact HN.out⟩, Mod.refl _ _⟩
  have hat : n.isAt i := ⟨by omega, by omega⟩
  have HAT := Lib.hid hat
  obtain ⟨k, rfl⟩ := Int.eq_ofNat_of_zero_le hat.1
  have hk : k < n.l.length := by omega
  have hs1 := HS.out.1
  have hs2 := HS.out.2
  clear hat
  go_wp2_with fail
  refine (takes_any n A c base p ok k w HN.out hb0 hk).mono ?_
  rintro e w3 ⟨rfl, hN3, hm3⟩
  have N3 := Aside0.mk hN3
  have HM3 := Aside0.mk (hm3.mono (S' := fun q => q = p ∨ ok q) (fun q h => h.imp (fun h => h) (fun h => HN.out.row.1 q h.symm)))
  clear hN3 hm3 hf1
  have y0 : w3.cell? ⟨p, 4, none⟩ = some (.int .i64 n.lost) := blk_cell N3.out.blk 4
  have y1 : w3.frozen? ⟨p, 4, none⟩ = false := blk_frozen N3.out.blk 4
  go_wp2_with fail
  go_ret
  refine ⟨by rw [lose_ok HAT.out]; rfl, ⟨A, c, ?_⟩, HM3.out.trans ((mod_setCell w3 p 4 _).mono (fun _ h => .inl h))⟩
  rw [lose_ok HAT.out]
  exact ⟨blk_put N3.out.blk 4 (.int .i64 (n.lost + 1)) rfl, R_set N3.out.row p 4 _ N3.out.pok, N3.out.pb, N3.out.pok, N3.out.cnt, N3.out.bd⟩
end Go.Proofs.Ytlnneaccgfakeaa
