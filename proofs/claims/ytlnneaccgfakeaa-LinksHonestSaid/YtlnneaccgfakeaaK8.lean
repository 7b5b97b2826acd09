/- Layer 23: the walks of Deliver, Lose. -/
import Derived.Test.YtlnneaccgfakeaaK7
set_option linter.unusedVariables false
set_option linter.unusedSimpArgs false
namespace Go.Proofs.Ytlnneaccgfakeaa
open Go.RowKit Go.Proofs.YtlnneaccgfakeaaW.PrintWords Go.Proofs.YtlnneaccgfakeaaW.PrintLast
theorem results_row_tmp {P : Program} {fn : Func} {p u : Tmp} {ty : TypeId} (h : fn.results = #[.cell p ty, .tmp u]) (tmps : Array Value) (w : World) (g : Nat) (t : TypeId) (cs : Array Value) (fr : Nat × Nat) (d : TypeDesc)
    (hp : tmps.getD p undef = .pointer (some ⟨g, 0, none⟩)) (hg : w.heap[g]? = some (.cells cs t fr))
    (hu : P.underlying ty = some d) (hd : (match d with | .struct _ | .array _ _ => true | _ => false) = true) (hi : (P.info? ty).map (·.size) = some cs.size) :
    (results fn tmps).run P w = .ok (.tuple #[.agg cs, tmps.getD u undef]) w := by
  rw [results_cell_tmp h, hp]
  simp [asAddr, run_loadVar_row w g t ty cs fr d hg hu hd hi, Result.andThen_ok]

/-- After a delivery: the message told lies in a block that the list has no more. -/
def DStep (base p : Nat) (ok : Nat → Prop) (m : Msg) (er : Int) (n : NS) (w : World) (e : Ending) (w' : World) : Prop :=
  ∃ v b A c xs, e = .returned (.tuple #[.agg #[.int .i64 m.src, .int .i64 m.dst, .int .i64 m.kind, .int .i64 m.pos, v], .int .i64 er]) ∧ PNet w' base p ok n A c xs ∧
    Kd.string.R 9 w' base (fun q => (ok q ∧ some q ≠ (Value.slice A xs.length c).ownBlock) ∧ q = b) v m.body ∧ (∀ x ∈ xs, x.2 ≠ b) ∧ Mod w w' (fun k => k = p ∨ ok k)
theorem deliver_no {n : NS} {i : Int} (h : ¬ n.isAt i) : n.deliver i = ((default, 1), n) := if_neg h
theorem deliver_ok {n : NS} {i : Int} {m : Msg} (h : n.isAt i) (hm : n.l.getD i.toNat default = m) : n.deliver i = ((m, 0), { n with l := n.l.eraseIdx i.toNat, delivered := n.delivered + 1 }) := by unfold NS.deliver; rw [if_pos h, hm]
theorem lose_no {n : NS} {i : Int} (h : ¬ n.isAt i) : n.lose i = (1, n) := if_neg h
theorem lose_ok {n : NS} {i : Int} (h : n.isAt i) : n.lose i = (0, { n with l := n.l.eraseIdx i.toNat, lost := n.lost + 1 }) := if_pos h
theorem map_erase {α β : Type} (f : α → β) (l : List α) (k : Nat) : (l.eraseIdx k).map f = (l.map f).eraseIdx k := by
  rw [List.eraseIdx_eq_take_drop_succ, List.eraseIdx_eq_take_drop_succ, List.map_append, List.map_take, List.map_drop]
theorem erase_nodup {l : List Nat} (h : l.Nodup) (k : Nat) : (l.eraseIdx k).Nodup := List.Nodup.sublist (List.eraseIdx_sublist _ _) h
theorem erase_ne {xs : List (Msg × Nat)} (h : (xs.map Prod.snd).Nodup) {k : Nat} (hk : k < xs.length) : ∀ x ∈ xs.eraseIdx k, x.2 ≠ (xs.getD k default).2 := by
  intro x hx he
  rw [List.eraseIdx_eq_take_drop_succ] at hx
  have hs : xs.map Prod.snd = (xs.take k).map Prod.snd ++ ((xs.getD k default).2 :: (xs.drop (k + 1)).map Prod.snd) := by
    rw [← List.map_cons, ← List.map_append]
    congr 1
    rw [List.getD_eq_getElem?_getD, List.getElem?_eq_getElem hk, Option.getD_some, ← List.drop_eq_getElem_cons hk, List.take_append_drop]
  rw [hs] at h
  rw [List.nodup_append] at h
  rcases List.mem_append.1 hx with hx | hx
  · exact h.2.2 _ (List.mem_map_of_mem hx) _ List.mem_cons_self he
  · exact (List.nodup_cons.1 h.2.1).1 (he ▸ List.mem_map_of_mem hx)
set_option maxRecDepth 100000 in
set_option maxHeartbeats 8000000 in
theorem deliver_lt (n : NS) (A : Option Addr) (c : Nat) (xs : List (Msg × Nat)) (base p : Nat) (ok : Nat → Prop) (i : Int) (w : World) (hN : PNet w base p ok n A c xs) (hb0 : base ≤ w.heap.size) (hlt : ∀ q, ok q → q < w.heap.size)
    (hs : 0 ≤ n.delivered ∧ n.delivered < 4611686018427387904) :
    Calls Try.prog 9 #[.pointer (some ⟨p, 0, none⟩), .int .i64 i] w (DStep base p ok (n.deliver i).1.1 (n.deliver i).1.2 (n.deliver i).2 w) := by
  have hll : xs.length = n.l.length := by rw [hN.fst, List.length_map]
  have HLL := Lib.hid hll
  have HS := Lib.hid hs
  have HN := Aside0.mk hN
  obtain ⟨bx, hbx⟩ : ∃ q, q = w.heap.size := ⟨_, rfl⟩
  obtain ⟨W1, h1, b1, s1, B1⟩ := grow (W := w) hbx.symm #[.int .i64 0, .int .i64 0, .int .i64 0, .int .i64 0, .slice none 0 0] 32
  have HBX := Lib.hid hbx
  have HN1 := Aside0.mk (hN.below B1)
  have HB1 := Aside0.mk B1
  have BX := Aside0.mk b1
  have S1 := Lib.hid s1
  have H1 := Lib.hid h1
  clear hN hll hs hbx h1 b1 s1 B1
  go_enter Try.func9, Try.ntmps9
  go_wp2_with (rw [← H1.out, ← HBX.out])
  refine (there_any n A xs.length c p i W1 HN1.out.blk).mono ?_
  rintro e w' ⟨rfl, hw'⟩
  subst hw'
  have z0 : w'.cell? ⟨bx, 0, none⟩ = some (.int .i64 0) := blk_cell BX.out 0
  have z1 : w'.cell? ⟨bx, 1, none⟩ = some (.int .i64 0) := blk_cell BX.out 1
  have z2 : w'.cell? ⟨bx, 2, none⟩ = some (.int .i64 0) := blk_cell BX.out 2
  have z3 : w'.cell? ⟨bx, 3, none⟩ = some (.int .i64 0) := blk_cell BX.out 3
  have z4 : w'.cell? ⟨bx, 4, none⟩ = some (.slice none 0 0) := blk_cell BX.out 4
  have z5 : ∀ i, w'.frozen? ⟨bx, i, none⟩ = false := fun i => blk_frozen BX.out i
  have S1b := S1.out
  have HBXb := HBX.out
  have h2 : bx < w'.heap.size := blk_lt BX.out
  clear S1b HBXb
  by_cases h1 : inR i xs.length
  case neg =>
    rw [decide_eq_false h1]
    go_wp2_with fail
    obtain ⟨w3, hw3, b3, m3, s3⟩ := put5 BX.out (.int .i64 0) (.int .i64 0) (.int .i64 0) (.int .i64 0) (.slice none 0 0)
    rw [← hw3]
    refine bodyPost_ret (results_row_tmp rfl _ _ bx 32 _ (0, 0) _ rfl b3 Try.underlying32 rfl (by kernel_rfl)) rfl ?_
    have h2 : ¬ n.isAt i := by unfold NS.isAt; unfold inR at h1; rw [← HLL.out]; exact h1
    have hx := HBX.out
    have hm : Mod w w3 (fun _ => False) := (Mod.of_below HB1.out).then_new m3 (fun i hi he => by omega)
    rw [deliver_no h2]
    exact ⟨_, w.heap.size, A, c, xs, rfl, HN.out.mod hm (fun h => h) (fun _ _ h => h), Kd.R_nil _ _ _ _ _, fun x hx => by have := HN.out.lt x hx; omega, hm.mono (fun _ h => h.elim)⟩
  case pos =>
    rw [decide_eq_true h1]
    have hat : n.isAt i := by unfold NS.isAt; unfold inR at h1; rw [← HLL.out]; exact h1
    have HAT := Lib.hid hat
    obtain ⟨k, rfl⟩ := Int.eq_ofNat_of_zero_le h1.1
    have hk : k < xs.length := by have := h1.2; omega
    clear hat h1
    have hs1 := HS.out.1
    have hs2 := HS.out.2
    obtain ⟨g, cap, hv, _, _, _⟩ := Kd.R_form HN1.out.row (by omega)
    obtain ⟨rfl, rfl⟩ : A = some ⟨g, 0, none⟩ ∧ c = cap := by injection hv with h1 h2 h3; exact ⟨h1, h3⟩
    obtain ⟨cs, hcl, hM, hcell, _⟩ := Kd.R_elem HN1.out.row default (k : Int) (by omega) (by omega)
    rw [Int.toNat_natCast] at hM hcell
    obtain ⟨⟨m, b⟩, hx⟩ : ∃ x, x = xs.getD k default := ⟨_, rfl⟩
    rw [← hx] at hM
    obtain ⟨v, rfl, hR⟩ := kMB_M.1 hM
    obtain ⟨B, d, rfl⟩ := Kd.R_slice hR
    have q0 : w'.cell? ⟨g, k * 5, none⟩ = some (.int .i64 m.src) := hcell 0 _ rfl
    have q1 : w'.cell? ⟨g, k * 5 + 1, none⟩ = some (.int .i64 m.dst) := hcell 1 _ rfl
    have q2 : w'.cell? ⟨g, k * 5 + 2, none⟩ = some (.int .i64 m.kind) := hcell 2 _ rfl
    have q3 : w'.cell? ⟨g, k * 5 + 3, none⟩ = some (.int .i64 m.pos) := hcell 3 _ rfl
    have q4 : w'.cell? ⟨g, k * 5 + 4, none⟩ = some (.slice B m.body.length d) := hcell 4 _ rfl
    have hf5 := HN1.out.f5
    have HR := Aside0.mk hR
    have HX := Lib.hid hx
    have p5 : (0 : Int) ≤ k := by omega
    have p6 : (k : Int) < xs.length := by omega
    have p7 := HN.out.cnt
    obtain ⟨b6, hb6⟩ : ∃ q, q = w'.heap.size := ⟨_, rfl⟩
    obtain ⟨W2, h2, c2, s2, B2⟩ := grow (W := w') hb6.symm #[.int .i64 m.src, .int .i64 m.dst, .int .i64 m.kind, .int .i64 m.pos, .slice B m.body.length d] 32
    have HN2 := Aside0.mk (HN1.out.below B2)
    have hf6 : (w'.alloc (.cells #[.int .i64 m.src, .int .i64 m.dst, .int .i64 m.kind, .int .i64 m.pos, .slice B m.body.length d] 32)).cell? ⟨p, 5, none⟩ = some (.slice (some ⟨g, 0, none⟩) xs.length c) := by rw [← h2]; exact HN2.out.f5
    have HR2 := Aside0.mk (Kd.R_below hR B2)
    have HB2 := Aside0.mk (below_then HB1.out HB1.out.size B2)
    have C2 := Aside0.mk c2
    have CX := Aside0.mk (blk_below BX.out B2)
    have H2 := Lib.hid h2
    have HB6 := Lib.hid hb6
    clear hv hcl hcell hM hx hR h2 c2 s2 B2 hb6 HR
    go_wp2_with fail
    rw [← H2.out, ← HB6.out]
    refine (delete_any base ok g xs.length c k xs W2 HN2.out.row hk (Nat.le_trans hb0 HB2.out.size) p7).mono ?_
    rintro e w3 ⟨rfl, hR3, hm3⟩
    have hg := HN2.out.row.1 g (by simp [Value.ownBlock])
    have hgp : p ≠ g := fun he => HN2.out.pok (by rw [he]; exact hg)
    have hgl := Kd.R_lt HN2.out.row g (by simp [Value.ownBlock])
    have hgw := Kd.R_lt HN.out.row g (by simp [Value.ownBlock])
    have hb6l := blk_lt C2.out
    have hbx1 : bx ≠ g := by have := HBX.out; omega
    have hb61 : b6 ≠ g := by have := HB6.out; have := HBX.out; have := blk_lt BX.out; omega
    have P3 := Aside0.mk (blk_mod HN2.out.blk hm3 hgp)
    have HR4 : Aside0 (Kd.string.R 9 w3 base (fun q => (ok q ∧ q ≠ g) ∧ q = b) (.slice B m.body.length d) m.body) := ⟨Kd.R_mono (Kd.R_step (Kd.R_mono HR2.out (ok' := fun q => (ok q ∧ q ≠ g) ∧ q = b) (fun q hq => ⟨⟨hq.1.1, fun he => hq.1.2 (by rw [he])⟩, hq.2⟩)) (fun q hq hl => hm3.block q hl hq.1.2)) (fun _ h => h)⟩
    have C3 := Aside0.mk (blk_mod C2.out hm3 hb61)
    have X3 := Aside0.mk (blk_mod CX.out hm3 hbx1)
    have R3 := Aside0.mk hR3
    have HM3 := Aside0.mk hm3
    have HGP := Lib.hid hgp
    have HG := Lib.hid hg
    have y0 : w3.frozen? ⟨p, 5, none⟩ = false := blk_frozen P3.out 5
    have y1 : w3.cell? ⟨p, 5, none⟩ = some (.slice (some ⟨g, 0, none⟩) xs.length c) := blk_cell P3.out 5
    have P4 := Aside0.mk (blk_put P3.out 5 (.slice (some ⟨g, 0, none⟩) (xs.length - 1) c) rfl)
    have y2 : (w3.setCell ⟨p, 5, none⟩ (.slice (some ⟨g, 0, none⟩) (xs.length - 1) c)).cell? ⟨p, 3, none⟩ = some (.int .i64 n.delivered) := blk_cell P4.out 3
    have y3 : ∀ i, (w3.setCell ⟨p, 5, none⟩ (.slice (some ⟨g, 0, none⟩) (xs.length - 1) c)).frozen? ⟨p, i, none⟩ = false := fun i => blk_frozen P4.out i
    have hbp : bx ≠ p := by have := HBX.out; have := HN.out.pb; omega
    have hb6p : b6 ≠ p := by have := HB6.out; have := HBX.out; have := HN.out.pb; omega
    have P5 := Aside0.mk (blk_put P4.out 3 (.int .i64 (n.delivered + 1)) rfl)
    have C5 := Aside0.mk ((Below.heap_setCell (w3.setCell ⟨p, 5, none⟩ (.slice (some ⟨g, 0, none⟩) (xs.length - 1) c)) ⟨p, 3, none⟩ (.int .i64 (n.delivered + 1)) b6 hb6p).trans ((Below.heap_setCell w3 ⟨p, 5, none⟩ (.slice (some ⟨g, 0, none⟩) (xs.length - 1) c) b6 hb6p).trans C3.out))
    have X5 := Aside0.mk ((Below.heap_setCell (w3.setCell ⟨p, 5, none⟩ (.slice (some ⟨g, 0, none⟩) (xs.length - 1) c)) ⟨p, 3, none⟩ (.int .i64 (n.delivered + 1)) bx hbp).trans ((Below.heap_setCell w3 ⟨p, 5, none⟩ (.slice (some ⟨g, 0, none⟩) (xs.length - 1) c) bx hbp).trans X3.out))
    have c0 : ((w3.setCell ⟨p, 5, none⟩ (.slice (some ⟨g, 0, none⟩) (xs.length - 1) c)).setCell ⟨p, 3, none⟩ (.int .i64 (n.delivered + 1))).cell? ⟨b6, 0, none⟩ = some (.int .i64 m.src) := blk_cell C5.out 0
    have c1 : ((w3.setCell ⟨p, 5, none⟩ (.slice (some ⟨g, 0, none⟩) (xs.length - 1) c)).setCell ⟨p, 3, none⟩ (.int .i64 (n.delivered + 1))).cell? ⟨b6, 1, none⟩ = some (.int .i64 m.dst) := blk_cell C5.out 1
    have c2 : ((w3.setCell ⟨p, 5, none⟩ (.slice (some ⟨g, 0, none⟩) (xs.length - 1) c)).setCell ⟨p, 3, none⟩ (.int .i64 (n.delivered + 1))).cell? ⟨b6, 2, none⟩ = some (.int .i64 m.kind) := blk_cell C5.out 2
    have c3 : ((w3.setCell ⟨p, 5, none⟩ (.slice (some ⟨g, 0, none⟩) (xs.length - 1) c)).setCell ⟨p, 3, none⟩ (.int .i64 (n.delivered + 1))).cell? ⟨b6, 3, none⟩ = some (.int .i64 m.pos) := blk_cell C5.out 3
    have c4 : ((w3.setCell ⟨p, 5, none⟩ (.slice (some ⟨g, 0, none⟩) (xs.length - 1) c)).setCell ⟨p, 3, none⟩ (.int .i64 (n.delivered + 1))).cell? ⟨b6, 4, none⟩ = some (.slice B m.body.length d) := blk_cell C5.out 4
    have x0 : ((w3.setCell ⟨p, 5, none⟩ (.slice (some ⟨g, 0, none⟩) (xs.length - 1) c)).setCell ⟨p, 3, none⟩ (.int .i64 (n.delivered + 1))).cell? ⟨bx, 0, none⟩ = some (.int .i64 0) := blk_cell X5.out 0
    have x1 : ((w3.setCell ⟨p, 5, none⟩ (.slice (some ⟨g, 0, none⟩) (xs.length - 1) c)).setCell ⟨p, 3, none⟩ (.int .i64 (n.delivered + 1))).cell? ⟨bx, 1, none⟩ = some (.int .i64 0) := blk_cell X5.out 1
    have x2 : ((w3.setCell ⟨p, 5, none⟩ (.slice (some ⟨g, 0, none⟩) (xs.length - 1) c)).setCell ⟨p, 3, none⟩ (.int .i64 (n.delivered + 1))).cell? ⟨bx, 2, none⟩ = some (.int .i64 0) := blk_cell X5.out 2
    have x3 : ((w3.setCell ⟨p, 5, none⟩ (.slice (some ⟨g, 0, none⟩) (xs.length - 1) c)).setCell ⟨p, 3, none⟩ (.int .i64 (n.delivered + 1))).cell? ⟨bx, 3, none⟩ = some (.int .i64 0) := blk_cell X5.out 3
    have x4 : ((w3.setCell ⟨p, 5, none⟩ (.slice (some ⟨g, 0, none⟩) (xs.length - 1) c)).setCell ⟨p, 3, none⟩ (.int .i64 (n.delivered + 1))).cell? ⟨bx, 4, none⟩ = some (.slice none 0 0) := blk_cell X5.out 4
    have x5 : ∀ i, ((w3.setCell ⟨p, 5, none⟩ (.slice (some ⟨g, 0, none⟩) (xs.length - 1) c)).setCell ⟨p, 3, none⟩ (.int .i64 (n.delivered + 1))).frozen? ⟨bx, i, none⟩ = false := fun i => blk_frozen X5.out i
    clear hR3 hm3 hgp hg hgl hb6l hbx1 hb61 hbp hb6p hf5 hf6 q0 q1 q2 q3 q4 z0 z1 z2 z3 z4 z5
    go_wp2_with fail
    obtain ⟨wf, hwf⟩ : ∃ u, u = ((w3.setCell ⟨p, 5, none⟩ (.slice (some ⟨g, 0, none⟩) (xs.length - 1) c)).setCell ⟨p, 3, none⟩ (.int .i64 (n.delivered + 1))) := ⟨_, rfl⟩
    have hp5 := P5.out
    have hx5 := X5.out
    rw [← hwf] at hp5 hx5 ⊢
    have hm5 : Mod w3 wf (fun q => q = p) := by rw [hwf]; exact (mod_setCell w3 p 5 _).trans (mod_setCell _ p 3 _)
    obtain ⟨w6, hw6, b6', m6, s6⟩ := put5 hx5 (.int .i64 m.src) (.int .i64 m.dst) (.int .i64 m.kind) (.int .i64 m.pos) (.slice B m.body.length d)
    rw [← hw6]
    have hbx := HBX.out
    have hb6 := HB6.out
    have hbxl := blk_lt BX.out
    have hpb := HN.out.pb
    have hgl : g < w.heap.size := Kd.R_lt HN.out.row g (by simp [Value.ownBlock])
    have hmt : Mod w w6 (fun k => k = p ∨ ok k) := by
      refine (Mod.of_below HB2.out).then_new (S' := fun q => q = g ∨ q = p ∨ q = bx) ((HM3.out.mono (fun _ h => .inl h)).trans ((hm5.mono (fun _ h => .inr (.inl h))).trans (m6.mono (fun _ h => .inr (.inr h))))) (fun i hi h => ?_)
      rcases h with h | h | h
      · rw [h]; exact .inr HG.out
      · exact .inl h
      · omega
    have hm36 : Mod w3 w6 (fun q => q = p ∨ q = bx) := (hm5.mono (fun _ h => .inl h)).trans (m6.mono (fun _ h => .inr h))
    have hgw : w.heap.size ≤ w6.heap.size := hmt.size
    have hok : ∀ q, ok q → q ≠ p := fun q hq he => HN.out.pok (he ▸ hq)
    have hlen : (xs.eraseIdx k).length = xs.length - 1 := List.length_eraseIdx_of_lt hk
    have hxb : b = (xs.getD k default).2 := by rw [← HX.out]
    refine bodyPost_ret (results_row_tmp rfl _ _ bx 32 _ (0, 0) _ rfl b6' Try.underlying32 rfl (by kernel_rfl)) rfl ?_
    have hml : n.l.getD (Int.toNat (k : Int)) default = m := by
      rw [Int.toNat_natCast, HN.out.fst, List.getD_eq_getElem?_getD, List.getElem?_map]
      have h1 := HX.out
      rw [List.getD_eq_getElem?_getD, List.getElem?_eq_getElem hk] at h1
      rw [List.getElem?_eq_getElem hk]
      have h2 : (m, b) = xs[k] := h1
      simp [← h2]
    rw [deliver_ok HAT.out hml]
    -- the rows behind: blocks of w alone were ok
    have hne : ∀ q, ok q → ¬ (q = p ∨ q = bx) := fun q hq h => by
      rcases h with h | h
      · exact hok q hq h
      · have := hlt q hq; omega
    have hR6 : kMB.R 32 w6 base ok (.slice (some ⟨g, 0, none⟩) (xs.length - 1) c) (xs.eraseIdx k) := Kd.R_step R3.out (fun q hq hl => hm36.block q hl (hne q hq))
    refine ⟨_, b, some ⟨g, 0, none⟩, c, xs.eraseIdx k, rfl, ⟨?_, ?_, ?_, ?_, ?_, HN.out.pb, HN.out.pok, ?_, ?_⟩, ?_, ?_, hmt⟩
    · rw [hlen]; exact blk_mod hp5 m6 (by omega)
    · rw [hlen]; exact hR6
    · show n.l.eraseIdx (Int.toNat (k : Int)) = _
      rw [Int.toNat_natCast, map_erase, ← HN.out.fst]
    · rw [map_erase]; exact erase_nodup HN.out.nodup k
    · intro x hx
      have := HN.out.lt x (List.mem_of_mem_eraseIdx hx)
      omega
    · rw [hlen]; omega
    · exact fun x hx => HN.out.bd x (List.mem_of_mem_eraseIdx hx)
    · exact Kd.R_mono (Kd.R_step HR4.out (fun q hq hl => hm36.block q hl (hne q hq.1.1))) (fun q hq => ⟨⟨hq.1.1, fun he => hq.1.2 (by simpa [Value.ownBlock] using he)⟩, hq.2⟩)
    · rw [hxb]; exact erase_ne HN.out.nodup hk
theorem PNet.within {w : World} {base p : Nat} {ok : Nat → Prop} {n : NS} {A : Option Addr} {c : Nat} {xs : List (Msg × Nat)} (h : PNet w base p ok n A c xs) : PNet w base p (fun q => ok q ∧ q < w.heap.size) n A c xs :=
  ⟨h.blk, Kd.R_mono (Kd.R_bound h.row) (fun q hq => ⟨hq.1, hq.2.2.1⟩), h.fst, h.nodup, h.lt, h.pb, fun hp => h.pok hp.1, h.cnt, h.bd⟩
theorem PNet.wide {w : World} {base p : Nat} {ok ok' : Nat → Prop} {n : NS} {A : Option Addr} {c : Nat} {xs : List (Msg × Nat)} (h : PNet w base p ok n A c xs) (hok : ∀ q, ok q → ok' q) (hp : ¬ ok' p) : PNet w base p ok' n A c xs :=
  ⟨h.blk, Kd.R_mono h.row hok, h.fst, h.nodup, h.lt, h.pb, hp, h.cnt, h.bd⟩
theorem deliver_any (n : NS) (A : Option Addr) (c : Nat) (xs : List (Msg × Nat)) (base p : Nat) (ok : Nat → Prop) (i : Int) (w : World) (hN : PNet w base p ok n A c xs) (hb0 : base ≤ w.heap.size)
    (hs : 0 ≤ n.delivered ∧ n.delivered < 4611686018427387904) :
    Calls Try.prog 9 #[.pointer (some ⟨p, 0, none⟩), .int .i64 i] w (DStep base p ok (n.deliver i).1.1 (n.deliver i).1.2 (n.deliver i).2 w) :=
  (deliver_lt n A c xs base p _ i w hN.within hb0 (fun q hq => hq.2) hs).mono fun e w' ⟨v, b, A', c', xs', h1, h2, h3, h4, h5⟩ =>
    ⟨v, b, A', c', xs', h1, h2.wide (fun q hq => hq.1) hN.pok, Kd.R_mono h3 (fun q hq => ⟨⟨hq.1.1.1, hq.1.2⟩, hq.2⟩), h4, h5.mono (fun q hq => hq.elim .inl (fun h => .inr h.1))⟩
set_option maxRecDepth 100000 in
set_option maxHeartbeats 4000000 in
theorem lose_any (n : NS) (A : Option Addr) (c : Nat) (xs : List (Msg × Nat)) (base p : Nat) (ok : Nat → Prop) (i : Int) (w : World) (hN : PNet w base p ok n A c xs) (hb0 : base ≤ w.heap.size)
    (hs : 0 ≤ n.lost ∧ n.lost < 4611686018427387904) :
    Calls Try.prog 12 #[.pointer (some ⟨p, 0, none⟩), .int .i64 i] w (PStep base p ok (.int .i64 (n.lose i).1) (n.lose i).2 w) := by
  have hll : xs.length = n.l.length := by rw [hN.fst, List.length_map]
  have HLL := Lib.hid hll
  have HS := Lib.hid hs
  have HN := Aside0.mk hN
  clear hN hll hs
  go_enter Try.func12, Try.ntmps12
  go_wp2_with fail
  refine (there_any n A xs.length c p i w HN.out.blk).mono ?_
  rintro e w' ⟨rfl, hw'⟩
  subst hw'
  by_cases h1 : inR i xs.length
  case neg =>
    rw [decide_eq_false h1]
    go_wp2_with fail
    go_ret
    have h2 : ¬ n.isAt i := by unfold NS.isAt; unfold inR at h1; rw [← HLL.out]; exact h1
    exact ⟨by rw [lose_no h2]; rfl, ⟨A, c, xs, by rw [lose_no h2]; exact HN.out⟩, Mod.refl _ _⟩
  case pos =>
    rw [decide_eq_true h1]
    have hat : n.isAt i := by unfold NS.isAt; unfold inR at h1; rw [← HLL.out]; exact h1
    have HAT := Lib.hid hat
    obtain ⟨k, rfl⟩ := Int.eq_ofNat_of_zero_le h1.1
    have hk : k < xs.length := by have := h1.2; omega
    clear hat h1
    have hs1 := HS.out.1
    have hs2 := HS.out.2
    obtain ⟨g, cap, hv, _, _, _⟩ := Kd.R_form HN.out.row (by omega)
    obtain ⟨rfl, rfl⟩ : A = some ⟨g, 0, none⟩ ∧ c = cap := by injection hv with h1 h2 h3; exact ⟨h1, h3⟩
    have hf5 := HN.out.f5
    have p5 : (0 : Int) ≤ k := by omega
    have p6 : (k : Int) < xs.length := by omega
    have p7 := HN.out.cnt
    clear hv
    go_wp2_with fail
    refine (delete_any base ok g xs.length c k xs w' HN.out.row hk hb0 p7).mono ?_
    rintro e w3 ⟨rfl, hR3, hm3⟩
    have hg := HN.out.row.1 g (by simp [Value.ownBlock])
    have hgp : p ≠ g := fun he => HN.out.pok (by rw [he]; exact hg)
    have P3 := Aside0.mk (blk_mod HN.out.blk hm3 hgp)
    have R3 := Aside0.mk hR3
    have HM3 := Aside0.mk hm3
    have HG := Lib.hid hg
    have y0 : w3.frozen? ⟨p, 5, none⟩ = false := blk_frozen P3.out 5
    have y1 : w3.cell? ⟨p, 5, none⟩ = some (.slice (some ⟨g, 0, none⟩) xs.length c) := blk_cell P3.out 5
    have P4 := Aside0.mk (blk_put P3.out 5 (.slice (some ⟨g, 0, none⟩) (xs.length - 1) c) rfl)
    have y2 : (w3.setCell ⟨p, 5, none⟩ (.slice (some ⟨g, 0, none⟩) (xs.length - 1) c)).cell? ⟨p, 2, none⟩ = some (.int .i64 n.lost) := blk_cell P4.out 2
    have y3 : ∀ i, (w3.setCell ⟨p, 5, none⟩ (.slice (some ⟨g, 0, none⟩) (xs.length - 1) c)).frozen? ⟨p, i, none⟩ = false := fun i => blk_frozen P4.out i
    clear hR3 hm3 hgp hg hf5
    go_wp2_with fail
    go_ret
    have hlen : (xs.eraseIdx k).length = xs.length - 1 := List.length_eraseIdx_of_lt hk
    have hr4 := R_set (R_set R3.out p 5 (.slice (some ⟨g, 0, none⟩) (xs.length - 1) c) HN.out.pok) p 2 (.int .i64 (n.lost + 1)) HN.out.pok
    have hm4 : Mod w' ((w3.setCell ⟨p, 5, none⟩ (.slice (some ⟨g, 0, none⟩) (xs.length - 1) c)).setCell ⟨p, 2, none⟩ (.int .i64 (n.lost + 1))) (fun q => q = p ∨ ok q) :=
      (HM3.out.mono (fun q h => .inr (by rw [h]; exact HG.out))).trans (((mod_setCell w3 p 5 _).trans (mod_setCell _ p 2 _)).mono (fun _ h => .inl h))
    refine ⟨by rw [lose_ok HAT.out]; rfl, ⟨some ⟨g, 0, none⟩, c, xs.eraseIdx k, ?_⟩, hm4⟩
    rw [lose_ok HAT.out]
    refine ⟨?_, ?_, ?_, ?_, ?_, HN.out.pb, HN.out.pok, ?_, ?_⟩
    · rw [hlen]; exact blk_put P4.out 2 (.int .i64 (n.lost + 1)) rfl
    · rw [hlen]; exact hr4
    · show n.l.eraseIdx (Int.toNat (k : Int)) = _
      rw [Int.toNat_natCast, map_erase, ← HN.out.fst]
    · rw [map_erase]; exact erase_nodup HN.out.nodup k
    · intro x hx
      have := HN.out.lt x (List.mem_of_mem_eraseIdx hx)
      have := hm4.size
      omega
    · rw [hlen]; omega
    · exact fun x hx => HN.out.bd x (List.mem_of_mem_eraseIdx hx)
end Go.Proofs.Ytlnneaccgfakeaa
