/- Layer 19: the walks of Ask, Held, Locks. -/
import Derived.Test.YtajblhainchplaaJ7
set_option linter.unusedVariables false
set_option linter.unusedSimpArgs false
namespace Go.Proofs.Ytajblhainchplaa
open Go.RowKit Go.Proofs.YtajblhainchplaaW.PrintWords Go.Proofs.YtajblhainchplaaW.PrintLast
def TStep (base p : Nat) (ok : Nat → Prop) (v : Value) (t : TS) (w : World) (e : Ending) (w' : World) : Prop :=
  e = .returned v ∧ (∃ A c, TNet w' base p ok t A c) ∧ Mod w w' (fun k => k = p ∨ ok k)
def TS.ask (t : TS) (pos : Int) (l : List Lk) : Int × TS := if pos ≤ t.last then (1, t) else if ∃ x ∈ l, ¬ RightL x then (190, t) else (0, ⟨t.l ++ [⟨pos, l⟩], pos⟩)
theorem ask_no1 {t : TS} {pos : Int} {l : List Lk} (h : pos ≤ t.last) : t.ask pos l = (1, t) := if_pos h
theorem ask_no2 {t : TS} {pos : Int} {l : List Lk} (h : ¬ pos ≤ t.last) (h2 : ∃ x ∈ l, ¬ RightL x) : t.ask pos l = (190, t) := by unfold TS.ask; rw [if_neg h, if_pos h2]
theorem ask_ok {t : TS} {pos : Int} {l : List Lk} (h : ¬ pos ≤ t.last) (h2 : ¬ ∃ x ∈ l, ¬ RightL x) : t.ask pos l = (0, ⟨t.l ++ [⟨pos, l⟩], pos⟩) := by unfold TS.ask; rw [if_neg h, if_neg h2]
set_option maxRecDepth 100000 in
set_option maxHeartbeats 8000000 in
theorem ask_any (t : TS) (A : Option Addr) (c : Nat) (base p : Nat) (ok : Nat → Prop) (pos : Int) (l : List Lk) (B : Option Addr) (d : Nat) (w : World) (hN : TNet w base p ok t A c) (hb0 : base ≤ w.heap.size) (hfr : ∀ k, w.heap.size ≤ k → ok k)
    (hC : kLk.C w B l.length l) (hz : l.length * 48 ≤ 140737488355328) (hs : (t.l.length + 1) * 32 ≤ 140737488355328) :
    Calls Try.prog 14 #[.pointer (some ⟨p, 0, none⟩), .int .i64 pos, .slice B l.length d] w (TStep base p ok (.int .i64 (t.ask pos l).1) (t.ask pos l).2 w) := by
  have HC := Aside0.mk hC
  have HN := Aside0.mk hN
  have f1 : w.cell? ⟨p, 1, none⟩ = some (.int .i64 t.last) := blk_cell hN.blk 1
  clear hC hN
  go_enter Try.func14, Try.ntmps14
  by_cases h1 : pos ≤ t.last
  case pos =>
    go_wp2_with fail
    go_ret
    exact ⟨by rw [ask_no1 h1]; rfl, ⟨A, c, by rw [ask_no1 h1]; exact HN.out⟩, Mod.refl _ _⟩
  case neg =>
    have H1 := Lib.hid (show t.last < pos by omega)
    go_wp2_with fail
    refine (contLk 32 enter32 #[] (fun x => ¬ RightL x) B l.length d l w HC.out (fun x _ w' _ => askbad_any x w')).mono ?_
    rintro e w2 ⟨rfl, hb2⟩
    have HB2 := Aside0.mk hb2
    have HN2 := Aside0.mk (HN.out.below hb2)
    have HC2 := Aside0.mk (Kd.C_below HC.out hb2)
    clear hb2 f1
    by_cases h2 : ∃ x ∈ l, ¬ RightL x
    case pos =>
      rw [decide_eq_true h2]
      have H2 := Lib.hid h2
      clear h2
      go_wp2_with fail
      go_ret
      exact ⟨by rw [ask_no2 (Int.not_le.2 H1.out) H2.out]; rfl, ⟨A, c, by rw [ask_no2 (Int.not_le.2 H1.out) H2.out]; exact HN2.out⟩, Mod.of_below HB2.out⟩
    case neg =>
      rw [decide_eq_false h2]
      have H2 := Lib.hid h2
      clear h2 h1
      have f0 := HN2.out.f0
      go_wp2_with fail
      refine start_ (n := 14) (S := fun w' => w'.cell? ⟨p, 0, none⟩ = some (.slice A t.l.length c)) (ds := [10, 13]) #[false, false, false, false, false, false, false, false, false, false, false, false, false, false] (by kernel_rfl) rfl rfl (f0) (fun hHeld => ?_)
      refine pure_ (i := 0) (N := some 17) (v := ?_) (a' := ?_) #[true, false, false, false, false, false, false, false, false, false, false, false, false, false] rfl rfl (by kernel_rfl) (fun _ _ _ h => h) (Or.inl ⟨by rfl, ?_⟩) ?_ ?_
      rotate_left
      · intro w'
        go_simp
        with_reducible rfl
      rotate_left
      · simp only [Act.put, List.setIfInBounds_toArray, List.set_cons_zero, List.set_cons_succ, i64_w, i32_w]
        rfl
      refine pure_ (i := 1) (N := some 18) (v := ?_) (a' := ?_) #[true, true, false, false, false, false, false, false, false, false, false, false, false, false] rfl rfl (by kernel_rfl) (fun _ _ _ h => h) (Or.inl ⟨by rfl, ?_⟩) ?_ ?_
      rotate_left
      · intro w'
        go_simp
        with_reducible rfl
      rotate_left
      · simp only [Act.put, List.setIfInBounds_toArray, List.set_cons_zero, List.set_cons_succ, i64_w, i32_w]
        rfl
      refine pure_ (i := 2) (N := some 19) (v := ?_) (a' := ?_) #[true, true, true, false, false, false, false, false, false, false, false, false, false, false] rfl rfl (by kernel_rfl) (fun _ _ _ h => h) (Or.inl ⟨by rfl, ?_⟩) ?_ ?_
      rotate_left
      · intro w'
        go_simp
        with_reducible rfl
      rotate_left
      · simp only [Act.put, List.setIfInBounds_toArray, List.set_cons_zero, List.set_cons_succ, i64_w, i32_w]
        rfl
      refine pure_ (i := 3) (N := some 20) (v := ?_) (a' := ?_) #[true, true, true, true, false, false, false, false, false, false, false, false, false, false] rfl rfl (by kernel_rfl) (fun _ _ _ h => h) (Or.inl ⟨by rfl, ?_⟩) ?_ ?_
      rotate_left
      · intro w'
        go_simp
        with_reducible rfl
      rotate_left
      · simp only [Act.put, List.setIfInBounds_toArray, List.set_cons_zero, List.set_cons_succ, i64_w, i32_w]
        rfl
      refine pure_ (i := 5) (N := some 22) (v := ?_) (a' := ?_) #[true, true, true, true, false, true, false, false, false, false, false, false, false, false] rfl rfl (by kernel_rfl) (fun _ _ _ h => h) (Or.inl ⟨by rfl, ?_⟩) ?_ ?_
      rotate_left
      · intro w'
        go_simp
        with_reducible rfl
      rotate_left
      · simp only [Act.put, List.setIfInBounds_toArray, List.set_cons_zero, List.set_cons_succ, i64_w, i32_w]
        rfl
      refine pure_ (i := 6) (N := some 23) (v := ?_) (a' := ?_) #[true, true, true, true, false, true, true, false, false, false, false, false, false, false] rfl rfl (by kernel_rfl) (fun _ _ _ h => h) (Or.inl ⟨by rfl, ?_⟩) ?_ ?_
      rotate_left
      · intro w'
        go_simp
        with_reducible rfl
      rotate_left
      · simp only [Act.put, List.setIfInBounds_toArray, List.set_cons_zero, List.set_cons_succ, i64_w, i32_w]
        rfl
      refine take_ (i := 4) (N := some 21) (v := ?_) (a' := ?_) #[true, true, true, true, true, true, true, false, false, false, false, false, false, false] rfl rfl (by kernel_rfl) (fun _ _ _ h => h) (Or.inl ⟨by rfl, ?_⟩) hHeld ?_ ?_
      rotate_left
      · intro w' s0
        go_simp
        with_reducible rfl
      rotate_left
      · simp only [Act.put, List.setIfInBounds_toArray, List.set_cons_zero, List.set_cons_succ, i64_w, i32_w]
        rfl
      refine one_ (i := 7) (N := some 24) #[true, true, true, true, true, true, true, true, false, false, false, false, false, false] rfl rfl (by kernel_rfl) (by decide) (fun K hK => ?_)
      have HCD := Aside0.mk (show kLk.C w2.drew B l.length l from HC2.out)
      refine goes_ Try.func33 (by kernel_rfl) rfl #[.slice B l.length d] (by rfl) rfl rfl (by simp only [List.map_toArray, List.map_cons, List.map_nil]; rfl) ?_
      with_reducible refine (clone_any B d l w2.drew w2.drew (Below.refl _ _) HCD.out hz).mono ?_
      rintro e w5 ⟨v, news, rfl, ho, hr, hb5⟩
      refine ⟨_, rfl, ?_⟩
      have hR5 := Cloned.row ho hr hb5 (fun _ _ h _ _ _ => kLk_M.2 (kLk_K.1 h))
      obtain ⟨V, vc, hv⟩ := Kd.R_slice hR5
      subst hv
      have HM : Aside0 (kPl.M w5 w2.drew.heap.size (fun k => w2.drew.heap.size ≤ k) ⟨pos, l⟩ [.int .i64 pos, .slice V l.length vc]) := ⟨kPl_M.2 ⟨_, rfl, Kd.R_mono (Kd.R_bound hR5) (fun k hk => hk.2.1)⟩⟩
      have N5 := Aside0.mk (TNet.below (w := w2.drew) (HN2.out.below (below_drew (Below.refl _ _))) hb5)
      have B5 := Aside0.mk (below_then (below_drew HB2.out) HB2.out.size hb5)
      have HS5 := Lib.hid hb5.size
      clear ho hr hb5 hR5
      refine hK.out _ _ (N5.out.f0) (fun hHeld => ?_)
      clear hK K
      refine norm_ (a' := ?_) ?_ ?_
      rotate_left
      · show Act.put _ (some 24) _ = _
        simp only [Act.put, List.setIfInBounds_toArray, List.set_cons_zero, List.set_cons_succ, i64_w, i32_w]
        rfl
      refine pure_ (i := 8) (N := some 25) (v := ?_) (a' := ?_) #[true, true, true, true, true, true, true, true, true, false, false, false, false, false] rfl rfl (by kernel_rfl) (fun _ _ _ h => h) (Or.inl ⟨by rfl, ?_⟩) ?_ ?_
      rotate_left
      · intro w'
        go_simp
        with_reducible rfl
      rotate_left
      · simp only [Act.put, List.setIfInBounds_toArray, List.set_cons_zero, List.set_cons_succ, i64_w, i32_w]
        rfl
      refine one_ (i := 9) (N := some 26) #[true, true, true, true, true, true, true, true, true, true, false, false, false, false] rfl rfl (by kernel_rfl) (by decide) (fun K hK => ?_)
      refine value_ (w1 := ?_) (v := ?_) (by rfl) rfl ?_ ?_
      rotate_left 2
      · go_simp
        constructor
        · rfl
        · rfl
      have HA6 := Aside0.mk (pw_cell_below (below_alloc (Below.refl w5.heap.size w5) (Obj.cells #[.int .i64 pos, .slice V l.length vc] 62)) N5.out.f0)
      refine hK.out _ _ (HA6.out) (fun hHeld => ?_)
      clear hK K
      refine norm_ (a' := ?_) ?_ ?_
      rotate_left
      · show Act.put _ (some 26) _ = _
        simp only [Act.put, List.setIfInBounds_toArray, List.set_cons_zero, List.set_cons_succ, i64_w, i32_w]
        rfl
      refine last_ (i := 10) (N := some 27) #[true, true, true, true, true, true, true, true, true, true, true, false, false, false] rfl rfl (by kernel_rfl) (by decide) (fun K hK => ?_)
      refine Kd.R_append_step kPl (w0 := w5) base (by rfl) (.tmp 21) (.tmp 26) 56 62 _ 32 rfl Try.underlying56 info62 rfl (by decide) (by omega) _ t.l ⟨pos, l⟩ [.int .i64 pos, .slice V l.length vc] ok (fun k => w2.drew.heap.size ≤ k) (by rfl) (by rfl) ?aP ?aK ?aF ?aO ?aB ?aS ?aL ?_
      case aP => exact kPl.M_lower (Nat.le_trans hb0 HB2.out.size) HM.out
      case aK => exact fun i hi => ⟨hfr i (Nat.le_trans HB2.out.size hi), fun he => by have h1 := Kd.R_lt HN2.out.row i he.symm; have h3 : w2.drew.heap.size = w2.heap.size := rfl; omega⟩
      case aF => exact fun i hi => hfr i (Nat.le_trans B5.out.size hi)
      case aO => exact N5.out.row
      case aB => exact Below.refl _ _
      case aS => exact Nat.le_trans hb0 B5.out.size
      case aL => exact hs
      intro v7 w7 ho7 hb7 hg7 hat7
      obtain ⟨V7, vc7, hv7⟩ := Kd.R_slice ho7
      rw [List.length_append, List.length_singleton] at hv7
      subst hv7
      have hO7 := Aside0.mk ho7
      have hp7 : w7.heap[p]? = _ := (hg7.block p (blk_lt N5.out.blk) (fun he => N5.out.pok (N5.out.row.1 p he.symm))).trans N5.out.blk
      have HP7 := Aside0.mk hp7
      have HM7 : Aside0 (Mod w5 w7 ok) := ⟨⟨hb7.os, hb7.tape, hb7.output, hg7.size, fun i hi hn => hg7.block i hi (fun he => hn (N5.out.row.1 i he.symm))⟩⟩
      clear ho7 hb7 hg7 hat7 hp7
      refine hK.out _ _ ?_
      clear hK K
      refine norm_ (a' := ?_) ?_ ?_
      rotate_left
      · show Act.put _ (some 27) _ = _
        simp only [Act.put, List.setIfInBounds_toArray, List.set_cons_zero, List.set_cons_succ, i64_w, i32_w]
        rfl
      refine pure_ (i := 11) (N := some 28) (v := ?_) (a' := ?_) #[true, true, true, true, true, true, true, true, true, true, true, true, false, false] rfl rfl (by kernel_rfl) (fun _ _ _ h => h) (Or.inl ⟨by rfl, ?_⟩) ?_ ?_
      rotate_left
      · intro w'
        go_simp
        with_reducible rfl
      rotate_left
      · simp only [Act.put, List.setIfInBounds_toArray, List.set_cons_zero, List.set_cons_succ, i64_w, i32_w]
        rfl
      refine pure_ (i := 12) (N := some 29) (v := ?_) (a' := ?_) #[true, true, true, true, true, true, true, true, true, true, true, true, true, false] rfl rfl (by kernel_rfl) (fun _ _ _ h => h) (Or.inl ⟨by rfl, ?_⟩) ?_ ?_
      rotate_left
      · intro w'
        go_simp
        with_reducible rfl
      rotate_left
      · simp only [Act.put, List.setIfInBounds_toArray, List.set_cons_zero, List.set_cons_succ, i64_w, i32_w]
        rfl
      refine last_ (i := 13) (N := none) #[true, true, true, true, true, true, true, true, true, true, true, true, true, true] rfl rfl (by kernel_rfl) (by decide) (fun K hK => ?_)
      have z1 := blk_cell HP7.out 0
      have z2 := blk_frozen HP7.out 0
      refine skip_ (w1 := ?_) (by rfl) rfl ?_ ?_
      rotate_left
      · go_simp
        rfl
      refine hK.out _ _ ?_
      clear hK K
      refine done_ (by kernel_rfl) ?_
      have HP8 := Aside0.mk (blk_put HP7.out 0 (.slice V7 (t.l.length + 1) vc7) rfl)
      have hR8 := R_set hO7.out p 0 (.slice V7 (t.l.length + 1) vc7) HN2.out.pok
      have hM9 := (HM7.out.mono (S' := fun k => k = p ∨ ok k) (fun _ h => .inr h)).trans ((mod_setCell w7 p 0 (.slice V7 (t.l.length + 1) vc7)).mono (fun _ h => .inl h))
      have hMw := (Mod.of_below (S := fun k => k = p ∨ ok k) B5.out).trans hM9
      obtain ⟨w8, hw8⟩ : ∃ u, u = w7.setCell ⟨p, 0, none⟩ (.slice V7 (t.l.length + 1) vc7) := ⟨_, rfl⟩
      rw [← hw8] at hR8 hMw ⊢
      have hp8 := HP8.out
      rw [← hw8] at hp8
      have HR8 := Aside0.mk hR8
      have HMW := Aside0.mk hMw
      have HP := Aside0.mk hp8
      have k0 : w8.cell? ⟨p, 1, none⟩ = some (.int .i64 t.last) := blk_cell hp8 1
      have k1 : w8.frozen? ⟨p, 1, none⟩ = false := blk_frozen hp8 1
      clear hM9 hMw hR8 hp8 hw8 z1 z2 hHeld f0
      go_wp2_with fail
      go_ret
      have hR9 := R_set HR8.out p 1 (.int .i64 pos) HN2.out.pok
      refine ⟨by rw [ask_ok (Int.not_le.2 H1.out) H2.out]; rfl, ⟨V7, vc7, ?_⟩, HMW.out.trans ((mod_setCell w8 p 1 _).mono (fun _ h => .inl h))⟩
      rw [ask_ok (Int.not_le.2 H1.out) H2.out]
      refine ⟨?_, ?_, HN2.out.pb, HN2.out.pok, ?_⟩
      · show _ = some (Obj.cells #[.slice V7 (t.l ++ [Plc.mk pos l]).length vc7, _] 58 (0, 0))
        rw [List.length_append]
        exact blk_put HP.out 1 (.int .i64 pos) rfl
      · show kPl.R 62 _ base ok (.slice V7 (t.l ++ [Plc.mk pos l]).length vc7) (t.l ++ [Plc.mk pos l])
        rw [List.length_append]
        exact hR9
      · intro x hx
        rcases List.mem_append.1 hx with hx | hx
        · exact HN2.out.bd x hx
        · rw [List.mem_singleton.1 hx]; exact hz
set_option maxRecDepth 100000 in
set_option maxHeartbeats 4000000 in
theorem held_any (t : TS) (A : Option Addr) (c : Nat) (base p : Nat) (ok : Nat → Prop) (w : World) (hN : TNet w base p ok t A c) (hs : t.l.length * 8 ≤ 140737488355320) :
    Calls Try.prog 20 #[.pointer (some ⟨p, 0, none⟩)] w fun e w' => ∃ v, e = .returned v ∧ (Kd.int .i64).R 3 w' w.heap.size (fun q => w.heap.size ≤ q) v (t.l.map (·.pos)) ∧ Below w.heap.size w w' := by
  have f0 := hN.f0
  have HC := Aside0.mk hN.C
  have HL := Lib.hid (show (t.l.map (·.pos)).length = t.l.length from List.length_map _)
  clear hN
  go_enter Try.func20, Try.ntmps20
  go_wp2_with fail
  go_loopg [3, 11] t.l.length (fun gn v i wr => ∃ k : Nat, i = .int .i64 k ∧ Aside0 (k + gn = t.l.length) ∧ Aside0 (Below w.heap.size w wr) ∧ Aside0 ((Kd.int .i64).R 3 wr w.heap.size (fun q => w.heap.size ≤ q) v ((t.l.map (·.pos)).take k)))
  case atStart => exact ⟨0, rfl, ⟨by omega⟩, ⟨Below.refl _ _⟩, ⟨Kd.R_nil _ _ _ _ _⟩⟩
  case round =>
    obtain ⟨k, rfl, ⟨hgn⟩, hB, hR⟩ := hrel
    have HGN := Lib.hid hgn
    clear hgn
    by_cases hk : k < t.l.length
    · obtain ⟨ad, q, B, d, rfl, hq, hqm, hqt, q0, q1, hl, hCb⟩ := pl_at HC.out hB.out k hk
      have HTS := Lib.hid (take_map (·.pos) t.l k q hqt)
      obtain ⟨L, hL⟩ : ∃ L, L = (t.l.map (·.pos)).take k := ⟨_, rfl⟩
      rw [← hL] at hR
      have HLE := Lib.hid hL
      have hLl : L.length ≤ k := by rw [hL, List.length_take]; omega
      obtain ⟨W2, h2, c2, s2, B2⟩ := grow (W := wr) rfl #[.int .i64 q.pos, .slice B q.l.length d] 62
      have HB2 := Aside0.mk (below_then hB.out hB.out.size B2)
      have HR2 := Aside0.mk (Kd.R_below hR.out B2)
      have H2 := Lib.hid h2
      have S2 := Lib.hid s2
      have p0 : (0 : Int) ≤ k := by omega
      have p1 : (k : Int) < t.l.length := by omega
      clear hq hqm hqt hL hl hCb h2 c2 s2 B2 hR
      go_wp2_with (at_builtin; (rw [← H2.out, ← S2.out]); go_loud (refine Kd.R_append (Kd.int .i64) (w0 := W2) w.heap.size rfl (.tmp 15) (.tmp 18) 37 3 _ 8 rfl Try.underlying37 info3 rfl (by decide) (by omega) _ L q.pos [.int .i64 q.pos] (fun q => w.heap.size ≤ q) (fun _ => False) rfl rfl ?aP (fun _ hk => hk.elim) ?aF ?aO ?aB ?aS ?aL ?_); (case aP => exact rfl); (case aF => exact fun i hi => Nat.le_trans HB2.out.size hi); (case aO => exact HR2.out); (case aB => exact Below.refl _ _); (case aS => exact HB2.out.size); (case aL => omega); intro v7 w7 ho7 hb7 hg7 hat7; have HO7 := Aside0.mk ho7; have HB7 := Aside0.mk (HB2.out.trans hb7); clear ho7 hb7 hg7 hat7)
      go_roundg (t.l.length - (k + 1))
      case measure => have := HGN.out; omega
      case rel => exact ⟨k + 1, by go_num, ⟨by have := HGN.out; omega⟩, HB7, ⟨by have h1 := HO7.out; rw [HLE.out, ← HTS.out] at h1; exact h1⟩⟩
    · go_wp2_with fail
      go_ret
      rw [List.take_of_length_le (by rw [HL.out]; omega)] at hR
      exact ⟨_, rfl, hR.out, hB.out⟩
end Go.Proofs.Ytajblhainchplaa
