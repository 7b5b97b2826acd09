/- Layer 19: copy into a longer row; the walk of plays: Ask. -/
import Derived.Test.YtajblhainchplaaJ21
set_option linter.unusedVariables false
set_option linter.unusedSimpArgs false
namespace Go.Proofs.Ytajblhainchplaa
open Go.RowKit Go.Proofs.YtajblhainchplaaW.PrintWords Go.Proofs.YtajblhainchplaaW.PrintLast
section
variable {P : Program} {ops : Array Oper} {rest : List Oper} {o : Oper} {a : Act} {Q : Exit → Act → World → Prop} {α : Type}
theorem R_copy_part (d : Kd α) {Rr : α → List Value → Prop} {w0 W : World} (base : Nat) (hgd : o.guard = none) (s x : Operand) (t t' e : TypeId)
    (ho : o.op = .call { callee := .builtin .copy, args := #[s, x], argTypes := #[t, t'] }) (ht : P.underlying t = some (.slice e)) (hinfo : (P.info? e).map (·.size) = some d.sz) (hs0 : 0 < d.sz)
    (v : Value) (xs ys : List α) (A : Option Addr) (m c : Nat) (ok : Nat → Prop) (hs : a.eval s = v) (hx : a.eval x = .slice A m c)
    (HO : d.R e W base ok v xs) (hlen : ys.length ≤ xs.length) (HR : ReadsRow Rr d.sz W A m ys) (hKM : ∀ x cs, Rr x cs → ∀ (w' : World) (ok' : Nat → Prop), d.M w' base ok' x cs) (HB : Below base w0 W) (hbase : base ≤ W.heap.size)
    (h : ∀ w1, d.R e w1 base ok v (ys ++ xs.drop ys.length) → Below base w0 w1 → W.grownBy w1 v.ownBlock → wpList P ops Q rest (a.put o.dst (.int .i64 (m : Int))) w1) :
    wpList P ops Q (o :: rest) a W := by
  have hm : ys.length = m := HR.1
  obtain ⟨hok, inner, hown, hr⟩ := HO
  have fin : ∀ w1, (Builtin.copy_ #[t, t'] o.type #[v, .slice A m c]).run P W = .ok (goInt (m : Int)) w1 → d.R e w1 base ok v (ys ++ xs.drop ys.length) → W.grownBy w1 v.ownBlock → wpList P ops Q (o :: rest) a W := by
    intro w1 hr hrow hg
    refine wpList_plain hgd fun K hK => ?_
    unfold Oper.wp execOp
    simp only [ho, resolve, invoke, builtin, Sem.run_bind, Sem.run_pure, Result.andThen_ok, List.map_toArray, List.map_cons, List.map_nil, hs, hx, hr]
    exact hK _ _ (h w1 hrow (HB.grown hg hbase (own_base hown)) hg)
  rcases Nat.eq_zero_or_pos m with h0 | hp
  · obtain ⟨A', c', hv⟩ := own_slice hown
    obtain rfl : ys = [] := List.eq_nil_of_length_eq_zero (by omega)
    refine fin W ?_ (by rw [List.length_nil, List.drop_zero, List.nil_append]; exact ⟨hok, inner, hown, hr⟩) (World.grownBy.refl W _)
    subst h0
    rw [hv]
    exact run_copy_zero W t t' o.type e A' A _ c' 0 c d.sz ht hinfo (by simp)
  · obtain ⟨ad, hA, _⟩ := HR.2.2 hp
    subst hA
    obtain ⟨news, hnr, hnc⟩ := ReadsRow.inner_ HR
    have hnM : Reps (fun x cs => Rr x cs) d.sz ys news := hnr
    have hone : ∀ u ∈ news, u.oneCell' = true := by
      intro u hu
      obtain ⟨q, hq, rfl⟩ := List.mem_iff_getElem.1 hu
      have hql : q / d.sz < ys.length := by
        rw [Nat.div_lt_iff_lt_mul hs0]
        rw [← hnM.1]
        exact hq
      have hc := hnM.2 (q / d.sz) _ (List.getElem?_eq_getElem hql)
      refine d.K_one (d.K_of_M (hKM _ _ hc W (fun _ => True))) _ ?_
      rw [List.mem_iff_getElem?]
      refine ⟨q % d.sz, ?_⟩
      rw [List.getElem?_take, if_pos (Nat.mod_lt _ hs0), List.getElem?_drop, Nat.mul_comm, Nat.div_add_mod, List.getElem?_eq_getElem hq]
    rcases hown.2 with ⟨_, hx0⟩ | ⟨g, cap, cur, hv, hb, hh, hnc2, hcm, hcs, htake⟩
    · omega
    have hnl : news.length = m * d.sz := by rw [hnM.1, hm]
    have hxm : m ≤ xs.length := by omega
    have hle : news.length ≤ cur.size := by
      rw [hnl, hcs]
      exact Nat.mul_le_mul_right _ (by omega)
    have hmn : Nat.min m xs.length = m := Nat.min_eq_left hxm
    have hrun := run_copy_whole (P := P) W t t' o.type e g 0 xs.length cap ad m c d.sz news ht hinfo (by rw [hnl, hmn]) hnc
      (fun j hj => by rw [cell_of_row W g _ cur e (0, 0) hh]; simp; omega) (fun j _ => blk_frozen hh _) hone
    obtain ⟨cur', h3, h4, h5⟩ := setCells_row news 0 W cur hh (by omega)
    obtain ⟨s1, s2, s3, s4⟩ := setCells_same g news 0 W
    have hfar : ∀ k', k' ≠ g → (W.setCells g 0 news).heap[k']? = W.heap[k']? := fun k' hk' => setCells_far news _ k' hk'
    have hlen2 : (ys ++ xs.drop ys.length).length = xs.length := by rw [List.length_append, List.length_drop]; omega
    refine fin _ (by rw [hv, hrun, hmn]) ⟨hok, news ++ inner.drop (ys.length * d.sz), ?_, Kd.reps_append (hnM.imp_ (fun x cs hx => hKM x cs hx _ _)) ((Kd.reps_drop hr).imp_ (fun x cs hx => d.M_move (fun k' hk' => hfar k' (fun he => hk'.2 (by rw [hv, he]; simp [Value.ownBlock]))) hx))⟩ ⟨s1, s2, s3, by rw [s4]; exact Nat.le_refl _, fun k _ hk => hfar k (fun he => hk (by rw [hv, he]; simp [Value.ownBlock]))⟩
    rw [hlen2]
    have hml : m * d.sz ≤ xs.length * d.sz := Nat.mul_le_mul_right _ hxm
    have hil : inner.length = xs.length * d.sz := hown.1
    refine ⟨by rw [List.length_append, List.length_drop, hnl, hm, hil]; omega, .inr ⟨g, cap, cur', hv, hb, h3, by omega, hcm, by rw [h4, hcs], ?_⟩⟩
    rw [h5, List.take_zero, List.nil_append, Nat.zero_add, hm, ← hnl, List.take_append, List.take_of_length_le (by omega), ← htake, List.drop_take]
end
set_option maxRecDepth 100000 in
set_option maxHeartbeats 8000000 in
theorem plays_ask (t : TS) (x : Opn) (B : Option Addr) (d : Nat) (w : World) (base p r : Nat) (K : Nat) (W0 : World) (hB0 : Below W0.heap.size W0 w) (hp0 : W0.heap.size ≤ p) (hr0 : W0.heap.size ≤ r) (hD0 : HDuo w base p r t) (hC : kLk.C W0 B x.l.length x.l) (hz : x.l.length * 48 ≤ 140737488351232)
    (hK : NB t K) (hK2 : K * 32 ≤ 140737488355000) (hw : x.what = 1) :
    Calls Try.prog 26 #[.pointer (some ⟨p, 0, none⟩), .pointer (some ⟨r, 0, none⟩), .agg #[.int .i64 x.what, .int .i64 x.pos, .slice B x.l.length d]] w (PlPost base p r K w) := by
  obtain ⟨okP, okQ, A, c, A', c', hD⟩ := hD0
  have NBK := Lib.hid hK
  have HW := Lib.hid hw
  have hlen : t.l.length * 32 ≤ 140737488355000 := by have := hK.1; omega
  obtain ⟨b5, hb5⟩ : ∃ q, q = w.heap.size := ⟨_, rfl⟩
  obtain ⟨W1, h1, k1, s1, B1⟩ := grow (W := w) hb5.symm #[.int .i64 x.what, .int .i64 x.pos, .slice B x.l.length d] 31
  have D := Aside0.mk hD
  have D1 := Aside0.mk (hD.below B1)
  have HB1 := Aside0.mk B1
  have K1 := Aside0.mk k1
  have H1 := Lib.hid h1
  have HB5 := Lib.hid hb5
  have S1 := Lib.hid s1
  have BW0 := Aside0.mk hB0
  have BW1 := Aside0.mk (below_then hB0 hB0.size B1)
  have HC1 := Aside0.mk (Kd.C_below hC BW1.out)
  have HC0 := Aside0.mk hC
  have hn := hC.2.1
  have q0 : W1.cell? ⟨b5, 0, none⟩ = some (.int .i64 x.what) := blk_cell k1 0
  have q1 : W1.cell? ⟨b5, 1, none⟩ = some (.int .i64 x.pos) := blk_cell k1 1
  have q2 : W1.cell? ⟨b5, 2, none⟩ = some (.slice B x.l.length d) := blk_cell k1 2
  have p1 : (x.what == 1) = true := int_beq_true hw
  clear hD hK hw h1 k1 s1 B1 hb5 hB0 hC
  go_enter Try.func26, Try.ntmps26
  go_upto_region 1 with (fail)
  rw [← H1.out, ← HB5.out]
  go_upto_region 5 with (first | (at_make; refine Kd.R_make kLk (w0 := W1) W1.heap.size 23 rfl rfl 29 (.tmp 37) (.tmp 37) rfl ((x.l.length : Int) + 1) rfl rfl Try.underlying29 _ 48 info23 rfl (by decide) (by omega) (default : Lk) (ok := fun k => W1.heap.size ≤ k) (okp := fun k => W1.heap.size ≤ k) (kLk_M.2 rfl) (fun _ h => h) (Nat.le_refl _) (by omega) (by omega) (Below.refl _ _) (Nat.le_refl _) ?_; intro v1 w2 ho hb hg hat; obtain ⟨V1, k1, hv1⟩ := Kd.R_slice ho; rw [List.length_replicate] at hv1; rw [show ((x.l.length : Int) + 1).toNat = x.l.length + 1 by omega] at hv1 ho; subst hv1; have HR := Aside0.mk ho; have HB := Aside0.mk hb; have q2 := pw_cell_below hb q2; clear ho hb hg hat) | ((with_reducible refine gate_copy (xs := #[.tmp 39, .tmp 41]) rfl ?_); go_loud (refine R_copy_part kLk (Rr := fun x cs => cs = [.int .i64 x.table, .string x.lo, .string x.hi, .bool x.write]) (w0 := W1) W1.heap.size rfl (.tmp 39) (.tmp 41) 29 29 23 rfl Try.underlying29 size23 (by decide) (.slice V1 (x.l.length + 1) k1) _ x.l B x.l.length d (fun k => W1.heap.size ≤ k) rfl rfl HR.out (by rw [List.length_replicate]; omega) ((Kd.C_below HC1.out HB.out).imp_ (Below.refl _ _) (fun _ _ h => kLk_K.1 h)) (fun _ _ h _ _ => kLk_M.2 h) HB.out HB.out.size ?_); intro w3 ho2 hb2 hg2; have HR3 := Aside0.mk ho2; have B3 := Aside0.mk hb2; clear ho2 hb2 hg2))
  obtain ⟨L, hL⟩ : ∃ L, L = x.l ++ List.drop x.l.length (List.replicate (x.l.length + 1) (default : Lk)) := ⟨_, rfl⟩
  have hLt : L.take x.l.length = x.l := by rw [hL]; exact List.take_left' rfl
  have hLl : L.length = x.l.length + 1 := by rw [hL, List.length_append, List.length_drop, List.length_replicate]; omega
  have hr3 := HR3.out
  rw [← hL] at hr3
  obtain ⟨g, cap, hv, _, _, _⟩ := Kd.R_form hr3 (by omega)
  obtain ⟨rfl, rfl⟩ : V1 = some ⟨g, 0, none⟩ ∧ k1 = cap := by injection hv with h1 h2 h3; exact ⟨h1, h3⟩
  have HR3b : Aside0 (kLk.R 23 w3 W1.heap.size (fun q => W1.heap.size ≤ q ∧ q < w3.heap.size) (.slice (some ⟨g, 0, none⟩) (x.l.length + 1) k1) L) := ⟨Kd.R_mono (Kd.R_bound hr3) (fun q h => ⟨h.1, h.2.2.1⟩)⟩
  have own : ∀ u, kLk.R 23 u W1.heap.size (fun q => W1.heap.size ≤ q ∧ q < w3.heap.size) (.slice (some ⟨g, 0, none⟩) (x.l.length + 1) k1) L → kLk.C u (some ⟨g, 0, none⟩) x.l.length x.l := by
    intro u hu
    have h1 := (Kd.R_reads' hu).2.2
    have h2 := Kd.C_take h1 (m := x.l.length) (by omega)
    rw [hLt] at h2
    exact h2
  have OWN := Lib.hid own
  have p2 : (x.l.length : Int) ≤ k1 := by have := (Kd.R_reads' hr3).2.1; omega
  have p3 : (0 : Int) ≤ x.l.length := by omega
  have D3 := Aside0.mk (D1.out.below B3.out)
  have K3 := Aside0.mk (blk_below K1.out B3.out)
  have BW3 := Aside0.mk (below_then BW1.out BW1.out.size B3.out)
  have HW13 := Lib.hid (show w.heap.size ≤ W1.heap.size ∧ W1.heap.size ≤ w3.heap.size from ⟨HB1.out.size, B3.out.size⟩)
  have e1 : w3.cell? ⟨b5, 1, none⟩ = some (.int .i64 x.pos) := blk_cell K3.out 1
  have e2 : w3.cell? ⟨b5, 2, none⟩ = some (.slice B x.l.length d) := blk_cell K3.out 2
  have hpb := D.out.P.pb
  have hrb := D.out.R.pb
  have hbw := D.out.hb
  have h5 : b5 < W1.heap.size := by have := S1.out; omega
  have h5w : w.heap.size ≤ b5 := by have := HB5.out; omega
  clear hL hLt hLl hr3 hv HR HB HR3 own q0 q1
  go_wp2_with fail
  refine start_ (n := 10) (S := fun w' => w'.cell? ⟨b5, 1, none⟩ = some (.int .i64 x.pos) ∧ w'.cell? ⟨b5, 2, none⟩ = some (.slice B x.l.length d)) (ds := []) #[false, false, false, false, false, false, false, false, false, false] (by kernel_rfl) rfl rfl ⟨e1, e2⟩ (fun hHeld => ?_)
  refine pure_ (i := 0) (N := some 43) (v := ?_) (a' := ?_) #[true, false, false, false, false, false, false, false, false, false] rfl rfl (by kernel_rfl) (fun _ _ _ h => h) (Or.inl ⟨by rfl, ?_⟩) ?_ ?_
  rotate_left
  · intro w'
    go_simp
    with_reducible rfl
  rotate_left
  · simp only [Act.put, List.setIfInBounds_toArray, List.set_cons_zero, List.set_cons_succ, i64_w, i32_w]
    rfl
  refine pure_ (i := 1) (N := some 44) (v := ?_) (a' := ?_) #[true, true, false, false, false, false, false, false, false, false] rfl rfl (by kernel_rfl) (fun _ _ _ h => h) (Or.inl ⟨by rfl, ?_⟩) ?_ ?_
  rotate_left
  · intro w'
    go_simp
    with_reducible rfl
  rotate_left
  · simp only [Act.put, List.setIfInBounds_toArray, List.set_cons_zero, List.set_cons_succ, i64_w, i32_w]
    rfl
  refine pure_ (i := 3) (N := some 46) (v := ?_) (a' := ?_) #[true, true, false, true, false, false, false, false, false, false] rfl rfl (by kernel_rfl) (fun _ _ _ h => h) (Or.inl ⟨by rfl, ?_⟩) ?_ ?_
  rotate_left
  · intro w'
    go_simp
    with_reducible rfl
  rotate_left
  · simp only [Act.put, List.setIfInBounds_toArray, List.set_cons_zero, List.set_cons_succ, i64_w, i32_w]
    rfl
  refine pure_ (i := 4) (N := some 47) (v := ?_) (a' := ?_) #[true, true, false, true, true, false, false, false, false, false] rfl rfl (by kernel_rfl) (fun _ _ _ h => h) (Or.inl ⟨by rfl, ?_⟩) ?_ ?_
  rotate_left
  · intro w'
    go_simp
    with_reducible rfl
  rotate_left
  · simp only [Act.put, List.setIfInBounds_toArray, List.set_cons_zero, List.set_cons_succ, i64_w, i32_w]
    rfl
  refine take_ (i := 2) (N := some 45) (v := ?_) (a' := ?_) #[true, true, true, true, true, false, false, false, false, false] rfl rfl (by kernel_rfl) (fun _ _ _ h => h) (Or.inl ⟨by rfl, ?_⟩) hHeld ?_ ?_
  rotate_left
  · rintro w' ⟨s0, s1⟩
    go_simp
    with_reducible rfl
  rotate_left
  · simp only [Act.put, List.setIfInBounds_toArray, List.set_cons_zero, List.set_cons_succ, i64_w, i32_w]
    rfl
  refine take_ (i := 5) (N := some 48) (v := ?_) (a' := ?_) #[true, true, true, true, true, true, false, false, false, false] rfl rfl (by kernel_rfl) (fun _ _ _ h => h) (Or.inl ⟨by rfl, ?_⟩) hHeld ?_ ?_
  rotate_left
  · rintro w' ⟨s0, s1⟩
    go_simp
    with_reducible rfl
  rotate_left
  · simp only [Act.put, List.setIfInBounds_toArray, List.set_cons_zero, List.set_cons_succ, i64_w, i32_w]
    rfl
  refine pure_ (i := 6) (N := some 49) (v := ?_) (a' := ?_) #[true, true, true, true, true, true, true, false, false, false] rfl rfl (by kernel_rfl) (fun _ _ _ h => h) (Or.inl ⟨by rfl, ?_⟩) ?_ ?_
  rotate_left
  · intro w'
    go_simp
    with_reducible rfl
  rotate_left
  · simp only [Act.put, List.setIfInBounds_toArray, List.set_cons_zero, List.set_cons_succ, i64_w, i32_w]
    rfl
  refine pure_ (i := 7) (N := some 50) (v := ?_) (a' := ?_) #[true, true, true, true, true, true, true, true, false, false] rfl rfl (by kernel_rfl) (fun _ _ _ h => h) (Or.inl ⟨by rfl, ?_⟩) ?_ ?_
  rotate_left
  · intro w'
    go_simp
    with_reducible rfl
  rotate_left
  · simp only [Act.put, List.setIfInBounds_toArray, List.set_cons_zero, List.set_cons_succ, i64_w, i32_w]
    rfl
  refine one_ (i := 8) (N := some 51) #[true, true, true, true, true, true, true, true, true, false] rfl rfl (by kernel_rfl) (by decide) (fun K hK => ?_)
  have HASK := Aside0.mk (ask_any t A c base p (fun q => okP q ∨ w3.heap.size ≤ q) x.pos x.l (some ⟨g, 0, none⟩) k1 w3.drew ((D3.out.P.below (below_drew (Below.refl _ _))).wide (fun q h => .inl h) (fun h => h.elim D3.out.P.pok (fun h => by have := HW13.out; omega))) D3.out.hb (fun k hk => .inr hk) (Kd.C_below (OWN.out w3 HR3b.out) (below_drew (Below.refl _ _))) (by omega) (by omega))
  refine goes_ Try.func14 (by kernel_rfl) rfl #[.pointer (some ⟨p, 0, none⟩), .int .i64 x.pos, .slice (some ⟨g, 0, none⟩) x.l.length k1] (by rfl) rfl rfl (by simp only [List.map_toArray, List.map_cons, List.map_nil]; rfl) ?_
  with_reducible refine (HASK.out).mono ?_
  rintro e w4 ⟨rfl, ⟨A4, c4, hN4⟩, hm4⟩
  refine ⟨_, rfl, ?_⟩
  have hM4 : Mod w3 w4 (fun q => q = p ∨ okP q) := ⟨hm4.os, hm4.tape, hm4.output, hm4.size, fun i hi h => hm4.block i hi (fun hh => h (hh.imp (fun h => h) (fun hh => hh.elim (fun h => h) (fun hh => by omega))))⟩
  have hS4 : ∀ q, w.heap.size ≤ q → ¬ (q = p ∨ okP q) := fun q hq h => h.elim (fun h => by omega) (fun h => by have := (D.out.bP q h).2; omega)
  have N4 := Aside0.mk hN4.bound
  have R4 := Aside0.mk (D3.out.R.mod hM4 (fun h => h.elim (fun h => D.out.ne h.symm) (fun h => by have := (D.out.bP r h).1; omega)) (fun q hq h => h.elim (fun h => by have := (D.out.bQ q hq).1; omega) (fun h => D.out.dis q h hq)))
  have K4 := Aside0.mk (blk_mod K3.out hM4 (hS4 b5 h5w))
  have HR4 := Aside0.mk (Kd.R_step HR3b.out (fun q hq hl => hM4.block q hl (hS4 q (Nat.le_trans HW13.out.1 hq.1))))
  have MT4 := Aside0.mk ((Mod.of_below (S := fun q => q = p ∨ q = r ∨ base ≤ q) (below_then HB1.out HB1.out.size B3.out)).trans (hM4.mono (fun q h => h.elim .inl (fun h => .inr (.inr (D.out.bP q h).1)))))
  have BW4 := Aside0.mk (Mod.below BW3.out hM4 BW3.out.size (fun i hi => hi.elim (fun h => by omega) (fun h => by have := (D.out.bP i h).1; omega)))
  have HW4 := Lib.hid hM4.size
  clear hN4 hm4 hM4 hS4
  refine hK.out _ _ ⟨blk_cell K4.out 1, blk_cell K4.out 2⟩ (fun hHeld => ?_)
  clear hK K
  refine norm_ (a' := ?_) ?_ ?_
  rotate_left
  · show Act.put _ (some 51) _ = _
    simp only [Act.put, List.setIfInBounds_toArray, List.set_cons_zero, List.set_cons_succ, i64_w, i32_w]
    rfl
  refine pure_ (i := 9) (N := some 8) (v := ?_) (a' := ?_) #[true, true, true, true, true, true, true, true, true, true] rfl rfl (by kernel_rfl) (fun _ _ _ h => h) (Or.inl ⟨by rfl, ?_⟩) ?_ ?_
  rotate_left
  · intro w'
    go_simp
    with_reducible rfl
  rotate_left
  · simp only [Act.put, List.setIfInBounds_toArray, List.set_cons_zero, List.set_cons_succ, i64_w, i32_w]
    rfl
  refine done_ (by kernel_rfl) ?_
  have q1 : w4.cell? ⟨b5, 1, none⟩ = some (.int .i64 x.pos) := blk_cell K4.out 1
  have q2 : w4.cell? ⟨b5, 2, none⟩ = some (.slice B x.l.length d) := blk_cell K4.out 2
  have hb4 : base ≤ w4.heap.size := by have := HW4.out; have := HW13.out; omega
  clear hHeld e1 e2
  go_wp2_with fail
  refine (rask_any t A' c' base r (fun q => okQ q ∨ w4.heap.size ≤ q) x.pos x.l B d w4 (R4.out.wide (fun q h => .inl h) (fun h => h.elim R4.out.pok (fun h => by omega))) hb4 (fun k hk => .inr hk) (Kd.C_below HC0.out BW4.out) (by omega) (by omega) NBK.out.2.low).mono ?_
  rintro e w5 ⟨rfl, ⟨A5, c5, hN5⟩, hm5⟩
  have hM5 : Mod w4 w5 (fun q => q = r ∨ okQ q) := ⟨hm5.os, hm5.tape, hm5.output, hm5.size, fun i hi h => hm5.block i hi (fun hh => h (hh.imp (fun h => h) (fun hh => hh.elim (fun h => h) (fun hh => by omega))))⟩
  have hS5 : ∀ q, w.heap.size ≤ q → ¬ (q = r ∨ okQ q) := fun q hq h => h.elim (fun h => by omega) (fun h => by have := (D.out.bQ q h).2; omega)
  have P5 := Aside0.mk (N4.out.mod hM5 (fun h => h.elim (fun h => D.out.ne h) (fun h => by have := (D.out.bQ p h).1; omega)) (fun q hq h => h.elim (fun h => by have := hq.2.1; omega) (fun h => hq.1.elim (fun h1 => D.out.dis q h1 h) (fun h1 => by have := (D.out.bQ q h).2; have := HW13.out; omega))))
  have R5 := Aside0.mk hN5
  have K5 := Aside0.mk (blk_mod K4.out hM5 (hS5 b5 h5w))
  have HR5 := Aside0.mk (Kd.R_step HR4.out (fun q hq hl => hM5.block q hl (hS5 q (Nat.le_trans HW13.out.1 hq.1))))
  have MT5 := Aside0.mk (MT4.out.trans (hM5.mono (fun q h => h.elim (fun h => .inr (.inl h)) (fun h => .inr (.inr (D.out.bQ q h).1)))))
  have BW5 := Aside0.mk (Mod.below BW4.out hM5 BW4.out.size (fun i hi => hi.elim (fun h => by omega) (fun h => by have := (D.out.bQ i h).1; omega)))
  have HW5 := Lib.hid hM5.size
  have e2 : w5.cell? ⟨b5, 2, none⟩ = some (.slice B x.l.length d) := blk_cell K5.out 2
  obtain ⟨er, her⟩ : ∃ n, n = (t.ask x.pos x.l).1 := ⟨_, rfl⟩
  rw [← her]
  clear hN5 hm5 hM5 hS5 q1 q2 her
  go_wp2_with fail
  refine start_ (n := 9) (S := fun w' => w'.cell? ⟨b5, 2, none⟩ = some (.slice B x.l.length d)) (ds := []) #[false, false, false, false, false, false, false, false, false] (by kernel_rfl) rfl rfl (e2) (fun hHeld => ?_)
  refine pure_ (i := 0) (N := some 58) (v := ?_) (a' := ?_) #[true, false, false, false, false, false, false, false, false] rfl rfl (by kernel_rfl) (fun _ _ _ h => h) (Or.inl ⟨by rfl, ?_⟩) ?_ ?_
  rotate_left
  · intro w'
    go_simp
    with_reducible rfl
  rotate_left
  · simp only [Act.put, List.setIfInBounds_toArray, List.set_cons_zero, List.set_cons_succ, i64_w, i32_w]
    rfl
  refine pure_ (i := 1) (N := some 59) (v := ?_) (a' := ?_) #[true, true, false, false, false, false, false, false, false] rfl rfl (by kernel_rfl) (fun _ _ _ h => h) (Or.inl ⟨by rfl, ?_⟩) ?_ ?_
  rotate_left
  · intro w'
    go_simp
    with_reducible rfl
  rotate_left
  · simp only [Act.put, List.setIfInBounds_toArray, List.set_cons_zero, List.set_cons_succ, i64_w, i32_w]
    rfl
  refine pure_ (i := 5) (N := some 63) (v := ?_) (a' := ?_) #[true, true, false, false, false, true, false, false, false] rfl rfl (by kernel_rfl) (fun _ _ _ h => h) (Or.inl ⟨by rfl, ?_⟩) ?_ ?_
  rotate_left
  · intro w'
    go_simp
    with_reducible rfl
  rotate_left
  · simp only [Act.put, List.setIfInBounds_toArray, List.set_cons_zero, List.set_cons_succ, i64_w, i32_w]
    rfl
  refine take_ (i := 2) (N := some 60) (v := ?_) (a' := ?_) #[true, true, true, false, false, true, false, false, false] rfl rfl (by kernel_rfl) (fun _ _ _ h => h) (Or.inl ⟨by rfl, ?_⟩) hHeld ?_ ?_
  rotate_left
  · intro w' s0
    go_simp
    with_reducible rfl
  rotate_left
  · simp only [Act.put, List.setIfInBounds_toArray, List.set_cons_zero, List.set_cons_succ, i64_w, i32_w]
    rfl
  refine pure_ (i := 3) (N := some 61) (v := ?_) (a' := ?_) #[true, true, true, true, false, true, false, false, false] rfl rfl (by kernel_rfl) (fun _ _ _ h => h) (Or.inl ⟨by rfl, ?_⟩) ?_ ?_
  rotate_left
  · intro w'
    go_simp
    with_reducible rfl
  rotate_left
  · simp only [Act.put, List.setIfInBounds_toArray, List.set_cons_zero, List.set_cons_succ, i64_w, i32_w]
    rfl
  refine pure_ (i := 4) (N := some 62) (v := ?_) (a' := ?_) #[true, true, true, true, true, true, false, false, false] rfl rfl (by kernel_rfl) (fun _ _ _ h => h) (Or.inl ⟨by rfl, ?_⟩) ?_ ?_
  rotate_left
  · intro w'
    go_simp
    with_reducible rfl
  rotate_left
  · simp only [Act.put, List.setIfInBounds_toArray, List.set_cons_zero, List.set_cons_succ, i64_w, i32_w]
    rfl
  refine take_ (i := 6) (N := some 64) (v := ?_) (a' := ?_) #[true, true, true, true, true, true, true, false, false] rfl rfl (by kernel_rfl) (fun _ _ _ h => h) (Or.inl ⟨by rfl, ?_⟩) hHeld ?_ ?_
  rotate_left
  · intro w' s0
    go_simp
    with_reducible rfl
  rotate_left
  · simp only [Act.put, List.setIfInBounds_toArray, List.set_cons_zero, List.set_cons_succ, i64_w, i32_w]
    rfl
  refine one_ (i := 7) (N := some 65) #[true, true, true, true, true, true, true, true, false] rfl rfl (by kernel_rfl) (by decide) (fun K hK => ?_)
  have HSAME := Aside0.mk (same_any (some ⟨g, 0, none⟩) k1 x.l B d x.l w5.drew (Kd.C_below (OWN.out w5 HR5.out) (below_drew (Below.refl _ _))) (Kd.C_below (Kd.C_below HC0.out BW5.out) (below_drew (Below.refl _ _))))
  refine goes_ Try.func39 (by kernel_rfl) rfl #[.slice (some ⟨g, 0, none⟩) x.l.length k1, .slice B x.l.length d] (by rfl) rfl rfl (by simp only [List.map_toArray, List.map_cons, List.map_nil]; rfl) ?_
  with_reducible refine (HSAME.out).mono ?_
  rintro e w6 ⟨rfl, m6, hw6⟩
  refine ⟨_, rfl, ?_⟩
  rw [decide_eq_true rfl]
  have hB6 : Below w5.heap.size w5 w6 := by rw [hw6]; exact pw_below_drewN (below_drew (Below.refl _ _)) m6
  have K6 := Aside0.mk (blk_below K5.out hB6)
  have HB6 := Aside0.mk hB6
  clear hw6 hB6
  refine hK.out _ _ (blk_cell K6.out 2) (fun hHeld => ?_)
  clear hK K
  refine norm_ (a' := ?_) ?_ ?_
  rotate_left
  · show Act.put _ (some 65) _ = _
    simp only [Act.put, List.setIfInBounds_toArray, List.set_cons_zero, List.set_cons_succ, i64_w, i32_w]
    rfl
  refine pure_ (i := 8) (N := some 10) (v := ?_) (a' := ?_) #[true, true, true, true, true, true, true, true, true] rfl rfl (by kernel_rfl) (fun _ _ _ h => h) (Or.inl ⟨by rfl, ?_⟩) ?_ ?_
  rotate_left
  · intro w'
    go_simp
    with_reducible rfl
  rotate_left
  · simp only [Act.put, List.setIfInBounds_toArray, List.set_cons_zero, List.set_cons_succ, i64_w, i32_w]
    rfl
  refine done_ (by kernel_rfl) ?_
  have P6 := Aside0.mk (P5.out.below HB6.out)
  have R6 := Aside0.mk (R5.out.below HB6.out)
  have MT6 := Aside0.mk (MT5.out.trans (Mod.of_below HB6.out))
  have S6 : Aside0 (ShLk w6 (fun q => W1.heap.size ≤ q ∧ q < w3.heap.size) (.slice (some ⟨g, 0, none⟩) (x.l.length + 1) k1)) := ⟨shLk_of (Kd.R_below HR5.out HB6.out)⟩
  have HW6 := Lib.hid HB6.out.size
  obtain ⟨n, hn⟩ : ∃ n, n = x.l.length + 1 := ⟨_, rfl⟩
  have hni : (x.l.length : Int) + 1 = n := by omega
  rw [← hn] at S6 ⊢
  have hn1 : n ≤ 9223372036854775807 := by omega
  clear hHeld e2 hn hni
  go_wp2_with fail
  go_loopg [11] n (fun gn i wr => ∃ k : Nat, i = .int .i64 k ∧ Aside0 (k + gn = n) ∧ Aside0 (Kin w6 wr (fun q => W1.heap.size ≤ q ∧ q < w3.heap.size)))
  case atStart => exact ⟨0, rfl, ⟨by omega⟩, ⟨Kin.refl _ _⟩⟩
  case round =>
    obtain ⟨k, rfl, ⟨hgn⟩, hKi⟩ := hrel
    have HGN := Lib.hid hgn
    clear hgn
    by_cases hk : k < n
    · obtain ⟨g', hg', hokg, e0, e1, e2, e3⟩ := S6.out.at_ k hk
      obtain rfl : g = g' := by injection hg' with h; injection h
      obtain ⟨n0, q0⟩ := (hKi.out.has e0).int
      obtain ⟨n1, q1⟩ := (hKi.out.has e1).string
      obtain ⟨n2, q2⟩ := (hKi.out.has e2).string
      obtain ⟨n3, q3⟩ := (hKi.out.has e3).bool
      have z0 : ∀ i, wr.frozen? ⟨g, i, none⟩ = false := by
        obtain ⟨cs, ty, _, hh, _⟩ := hKi.out.has e0
        exact fun i => blk_frozen hh i
      have hK3 := Aside0.mk ((((hKi.out.set (v := .int .i64 3) e0 hokg).set (v := .string ByteArray.empty) e1 hokg).set (v := .string ByteArray.empty) e2 hokg).set (v := .bool true) e3 hokg)
      have p5 : (0 : Int) ≤ k := by omega
      have p6 : (k : Int) < n := by omega
      clear e0 e1 e2 e3 hokg hg'
      go_wp2_with fail
      go_roundg (n - (k + 1))
      case measure => have := HGN.out; omega
      case rel => exact ⟨k + 1, by go_num, ⟨by have := HGN.out; omega⟩, hK3⟩
    · have p6 : ¬ (k : Int) < n := by omega
      have KI := Aside0.mk hKi.out.mod
      clear hKi
      go_wp2_with fail
      go_ret
      have hw := HW13.out
      have P7 := P6.out.mod KI.out (fun h => by omega) (fun q hq h => hq.1.elim (fun h1 => by have := (D.out.bP q h1).2; omega) (fun h1 => by omega))
      have R7 := R6.out.mod KI.out (fun h => by omega) (fun q hq h => hq.elim (fun h1 => by have := (D.out.bQ q h1).2; omega) (fun h1 => by have := HW4.out; omega))
      refine ⟨by simp, ⟨_, nb_ask NBK.out x.pos x.l, duo_mk P7 R7 (fun q hq h1 h2 => ?_) D.out.ne (by have := KI.out.size; have := HW6.out; have := HW5.out; omega)⟩, MT6.out.trans (KI.out.mono (fun q h => .inr (.inr (by omega))))⟩
      rcases h2 with h2 | h2
      · rcases h1.1 with h3 | h3
        · exact D.out.dis q h3 h2
        · have := (D.out.bQ q h2).2; omega
      · have := h1.2.2; omega
end Go.Proofs.Ytajblhainchplaa
