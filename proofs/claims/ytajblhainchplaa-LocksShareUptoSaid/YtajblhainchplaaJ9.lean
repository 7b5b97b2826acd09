/- Layer 19: the walks of Ready, Waits. -/
import Derived.Test.YtajblhainchplaaJ8
set_option linter.unusedVariables false
set_option linter.unusedSimpArgs false
namespace Go.Proofs.Ytajblhainchplaa
open Go.RowKit Go.Proofs.YtajblhainchplaaW.PrintWords Go.Proofs.YtajblhainchplaaW.PrintLast
def findP (l : List Plc) (pos : Int) : Option Nat := l.findIdx? (fun q => decide (q.pos = pos))
theorem First.find {l : List Plc} {pos r : Int} (h : First (fun q => q.pos = pos) l r) : (findP l pos = none ∧ r = -1) ∨ ∃ k : Nat, findP l pos = some k ∧ r = k ∧ k < l.length := by
  rcases h with ⟨rfl, h⟩ | ⟨k, rfl, x, hx, hp, hn⟩
  · exact .inl ⟨by unfold findP; rw [List.findIdx?_eq_none_iff]; intro x hx; exact decide_eq_false (h x hx), rfl⟩
  · obtain ⟨hk, rfl⟩ := List.getElem?_eq_some_iff.1 hx
    refine .inr ⟨k, ?_, rfl, hk⟩
    unfold findP
    rw [List.findIdx?_eq_some_iff_getElem]
    refine ⟨hk, decide_eq_true hp, fun j hj => ?_⟩
    have : l[j]'(by omega) ∈ l.take k := by rw [List.mem_take_iff_getElem]; exact ⟨j, by omega, rfl⟩
    simpa using hn _ this
def readyL (l m : List Plc) : List Int := (m.filter (fun p => decide (¬ ∃ q ∈ l, Ahead p q))).map (·.pos)
def TS.ready (t : TS) : List Int := readyL t.l t.l
theorem readyL_step {l m m' : List Plc} {p : Plc} (h : m' = m ++ [p]) (hn : ¬ ∃ q ∈ l, Ahead p q) : readyL l m' = readyL l m ++ [p.pos] := by
  unfold readyL; rw [h, List.filter_append, List.map_append]; simp only [List.filter_cons, List.filter_nil]; rw [if_pos (decide_eq_true hn)]; rfl
theorem readyL_stay {l m m' : List Plc} {p : Plc} (h : m' = m ++ [p]) (hn : ∃ q ∈ l, Ahead p q) : readyL l m' = readyL l m := by
  unfold readyL; rw [h, List.filter_append, List.map_append, List.filter_cons_of_neg (by simpa using hn)]; simp
theorem readyL_len (l m : List Plc) : (readyL l m).length ≤ m.length := by unfold readyL; rw [List.length_map]; exact List.length_filter_le _ _
def keepL (x : Plc) (m : List Plc) : List Int := (m.filter (fun q => decide (Ahead x q))).map (·.pos)
theorem keepL_step {m m' : List Plc} {x p : Plc} (h : m' = m ++ [p]) (hn : Ahead x p) : keepL x m' = keepL x m ++ [p.pos] := by
  unfold keepL; rw [h, List.filter_append, List.map_append]; simp only [List.filter_cons, List.filter_nil]; rw [if_pos (decide_eq_true hn)]; rfl
theorem keepL_stay {m m' : List Plc} {x p : Plc} (h : m' = m ++ [p]) (hn : ¬ Ahead x p) : keepL x m' = keepL x m := by
  unfold keepL; rw [h, List.filter_append, List.map_append, List.filter_cons_of_neg (by simpa using hn)]; simp
theorem keepL_len (x : Plc) (m : List Plc) : (keepL x m).length ≤ m.length := by unfold keepL; rw [List.length_map]; exact List.length_filter_le _ _
def TS.waits (t : TS) (pos : Int) : List Int × Int := match findP t.l pos with
  | none => ([], 1)
  | some k => (keepL (t.l.getD k default) t.l, 0)
theorem waits_no {t : TS} {pos : Int} (h : findP t.l pos = none) : t.waits pos = ([], 1) := by unfold TS.waits; rw [h]
theorem waits_yes {t : TS} {pos : Int} {k : Nat} (h : findP t.l pos = some k) : t.waits pos = (keepL (t.l.getD k default) t.l, 0) := by unfold TS.waits; rw [h]
set_option maxRecDepth 100000 in
set_option maxHeartbeats 4000000 in
theorem ready_any (t : TS) (A : Option Addr) (c : Nat) (base p : Nat) (ok : Nat → Prop) (w : World) (hN : TNet w base p ok t A c) (hs : t.l.length * 8 ≤ 140737488355320) :
    Calls Try.prog 15 #[.pointer (some ⟨p, 0, none⟩)] w fun e w' => ∃ v, e = .returned v ∧ (Kd.int .i64).R 3 w' w.heap.size (fun q => w.heap.size ≤ q) v t.ready ∧ Below w.heap.size w w' := by
  have f0 := hN.f0
  have HN := Aside0.mk hN
  have HC := Aside0.mk hN.C
  clear hN
  go_enter Try.func15, Try.ntmps15
  go_wp2_with fail
  go_loopg [3, 11] t.l.length (fun gn v i wr => ∃ k : Nat, i = .int .i64 k ∧ Aside0 (k + gn = t.l.length) ∧ Aside0 (Below w.heap.size w wr) ∧ Aside0 ((Kd.int .i64).R 3 wr w.heap.size (fun q => w.heap.size ≤ q) v (readyL t.l (t.l.take k))))
  case atStart => exact ⟨0, rfl, ⟨by omega⟩, ⟨Below.refl _ _⟩, ⟨Kd.R_nil _ _ _ _ _⟩⟩
  case round =>
    obtain ⟨k, rfl, ⟨hgn⟩, hB, hR⟩ := hrel
    have HGN := Lib.hid hgn
    clear hgn
    by_cases hk : k < t.l.length
    · obtain ⟨ad, q, B, d, rfl, hq, hqm, hqt, q0, q1, hl, hCb⟩ := pl_at HC.out hB.out k hk
      have HTS := Lib.hid hqt
      obtain ⟨L, hL⟩ : ∃ L, L = readyL t.l (t.l.take k) := ⟨_, rfl⟩
      rw [← hL] at hR
      have HLE := Lib.hid hL
      have hLl : L.length ≤ k := by rw [hL]; exact Nat.le_trans (readyL_len _ _) (by rw [List.length_take]; omega)
      obtain ⟨bx, hbx⟩ : ∃ q, q = wr.heap.size := ⟨_, rfl⟩
      obtain ⟨W2, h2, c2, s2, B2⟩ := grow (W := wr) hbx.symm #[.int .i64 q.pos, .slice B q.l.length d] 62
      have HB2 := Aside0.mk (below_then hB.out hB.out.size B2)
      have HR2 := Aside0.mk (Kd.R_below hR.out B2)
      have HCb := Aside0.mk hCb
      have H2 := Lib.hid h2
      have HBX := Lib.hid hbx
      have C2 := Aside0.mk c2
      have p0 : (0 : Int) ≤ k := by omega
      have p1 : (k : Int) < t.l.length := by omega
      clear hq hqm hqt hL hl hCb h2 c2 s2 B2 hR hbx
      go_wp2_with fail
      rw [← H2.out, ← HBX.out]
      have F0 := pw_cell_below HB2.out f0
      refine start_ (n := 8) (S := fun w' => w'.cell? ⟨p, 0, none⟩ = some (.slice (some ad) t.l.length c) ∧ w'.cell? ⟨bx, 0, none⟩ = some (.int .i64 q.pos) ∧ w'.cell? ⟨bx, 1, none⟩ = some (.slice B q.l.length d)) (ds := []) #[false, false, false, false, false, false, false, false] (by kernel_rfl) rfl rfl ⟨F0, blk_cell C2.out 0, blk_cell C2.out 1⟩ (fun hHeld => ?_)
      refine pure_ (i := 0) (N := some 15) (v := ?_) (a' := ?_) #[true, false, false, false, false, false, false, false] rfl rfl (by kernel_rfl) (fun _ _ _ h => h) (Or.inl ⟨by rfl, ?_⟩) ?_ ?_
      rotate_left
      · intro w'
        go_simp
        with_reducible rfl
      rotate_left
      · simp only [Act.put, List.setIfInBounds_toArray, List.set_cons_zero, List.set_cons_succ, i64_w, i32_w]
        rfl
      refine pure_ (i := 1) (N := some 16) (v := ?_) (a' := ?_) #[true, true, false, false, false, false, false, false] rfl rfl (by kernel_rfl) (fun _ _ _ h => h) (Or.inl ⟨by rfl, ?_⟩) ?_ ?_
      rotate_left
      · intro w'
        go_simp
        with_reducible rfl
      rotate_left
      · simp only [Act.put, List.setIfInBounds_toArray, List.set_cons_zero, List.set_cons_succ, i64_w, i32_w]
        rfl
      refine pure_ (i := 2) (N := some 17) (v := ?_) (a' := ?_) #[true, true, true, false, false, false, false, false] rfl rfl (by kernel_rfl) (fun _ _ _ h => h) (Or.inl ⟨by rfl, ?_⟩) ?_ ?_
      rotate_left
      · intro w'
        go_simp
        with_reducible rfl
      rotate_left
      · simp only [Act.put, List.setIfInBounds_toArray, List.set_cons_zero, List.set_cons_succ, i64_w, i32_w]
        rfl
      refine take_ (i := 3) (N := some 18) (v := ?_) (a' := ?_) #[true, true, true, true, false, false, false, false] rfl rfl (by kernel_rfl) (fun _ _ _ h => h) (Or.inl ⟨by rfl, ?_⟩) hHeld ?_ ?_
      rotate_left
      · rintro w' ⟨s0, s1, s2⟩
        go_simp
        with_reducible rfl
      rotate_left
      · simp only [Act.put, List.setIfInBounds_toArray, List.set_cons_zero, List.set_cons_succ, i64_w, i32_w]
        rfl
      refine take_ (i := 4) (N := some 19) (v := ?_) (a' := ?_) #[true, true, true, true, true, false, false, false] rfl rfl (by kernel_rfl) (fun _ _ _ h => h) (Or.inl ⟨by rfl, ?_⟩) hHeld ?_ ?_
      rotate_left
      · rintro w' ⟨s0, s1, s2⟩
        go_simp
        with_reducible rfl
      rotate_left
      · simp only [Act.put, List.setIfInBounds_toArray, List.set_cons_zero, List.set_cons_succ, i64_w, i32_w]
        rfl
      refine one_ (i := 5) (N := some 20) #[true, true, true, true, true, true, false, false] rfl rfl (by kernel_rfl) (by decide) (fun K hK => ?_)
      refine goes_ Try.func35 (by kernel_rfl) rfl #[.agg #[.int .i64 q.pos, .slice B q.l.length d]] (by rfl) rfl rfl (by simp only [List.map_toArray, List.map_cons, List.map_nil]; rfl) ?_
      with_reducible refine (ahead_any q B d W2.drew).mono ?_
      rintro e w5 ⟨g, rfl, hg5, hb5⟩
      refine ⟨_, rfl, ?_⟩
      have HG5 := Aside0.mk hg5
      have B5 := Aside0.mk (below_then (below_drew HB2.out) HB2.out.size hb5)
      have R5 := Aside0.mk (Kd.R_below (w := W2.drew) (Kd.R_below HR2.out (below_drew (Below.refl _ _))) hb5)
      have C5 := Aside0.mk (blk_below (w := W2.drew) (blk_below C2.out (below_drew (Below.refl _ _))) hb5)
      clear hg5 hb5
      refine hK.out _ _ ⟨pw_cell_below B5.out f0, blk_cell C5.out 0, blk_cell C5.out 1⟩ (fun hHeld => ?_)
      clear hK K
      refine norm_ (a' := ?_) ?_ ?_
      rotate_left
      · show Act.put _ (some 20) _ = _
        simp only [Act.put, List.setIfInBounds_toArray, List.set_cons_zero, List.set_cons_succ, i64_w, i32_w]
        rfl
      refine one_ (i := 6) (N := some 21) #[true, true, true, true, true, true, true, false] rfl rfl (by kernel_rfl) (by decide) (fun K hK => ?_)
      have HCNT := Aside0.mk (contPl 48 enter48 #[.pointer (some ⟨g, 0, none⟩)] (fun x => Ahead q x) (some ad) t.l.length c t.l w5 (Kd.C_below HC.out B5.out) (fun x _ D d2 w2 hb2 hx => c48_any x q B d D d2 g w2 (blk_below HG5.out hb2) (Kd.C_below (Kd.C_below HCb.out B5.out) hb2) (Kd.C_below hx hb2)))
      refine goes_ Try.func34 (by kernel_rfl) rfl #[.slice (some ad) t.l.length c, .func (.func 48) #[] #[.pointer (some ⟨g, 0, none⟩)]] (by rfl) rfl rfl (by simp only [List.map_toArray, List.map_cons, List.map_nil]; rfl) ?_
      with_reducible refine (HCNT.out).mono ?_
      rintro e w6 ⟨rfl, hb6⟩
      refine ⟨_, rfl, ?_⟩
      have B6 := Aside0.mk (below_then B5.out B5.out.size hb6)
      have R6 := Aside0.mk (Kd.R_below R5.out hb6)
      have C6 := Aside0.mk (blk_below C5.out hb6)
      clear hb6
      refine hK.out _ _ ⟨pw_cell_below B6.out f0, blk_cell C6.out 0, blk_cell C6.out 1⟩ (fun hHeld => ?_)
      clear hK K
      refine norm_ (a' := ?_) ?_ ?_
      rotate_left
      · show Act.put _ (some 21) _ = _
        simp only [Act.put, List.setIfInBounds_toArray, List.set_cons_zero, List.set_cons_succ, i64_w, i32_w]
        rfl
      refine pure_ (i := 7) (N := some 22) (v := ?_) (a' := ?_) #[true, true, true, true, true, true, true, true] rfl rfl (by kernel_rfl) (fun _ _ _ h => h) (Or.inl ⟨by rfl, ?_⟩) ?_ ?_
      rotate_left
      · intro w'
        go_simp
        with_reducible rfl
      rotate_left
      · simp only [Act.put, List.setIfInBounds_toArray, List.set_cons_zero, List.set_cons_succ, i64_w, i32_w]
        rfl
      refine done_ (by kernel_rfl) ?_
      have z0 := blk_cell C6.out 0
      by_cases hE : ∃ x ∈ t.l, Ahead q x
      · rw [decide_eq_true hE]
        have HE := Lib.hid hE
        clear hE hHeld
        go_wp2_with fail
        go_roundg (t.l.length - (k + 1))
        case measure => have := HGN.out; omega
        case rel => exact ⟨k + 1, by go_num, ⟨by have := HGN.out; omega⟩, B6, ⟨by have h1 := R6.out; rw [HLE.out] at h1; rw [readyL_stay HTS.out HE.out]; exact h1⟩⟩
      · rw [decide_eq_false hE]
        have HE := Lib.hid hE
        clear hE hHeld
        go_wp2_with (at_builtin; go_loud (refine Kd.R_append (Kd.int .i64) (w0 := w6) w.heap.size rfl (.tmp 23) (.tmp 26) 37 3 _ 8 rfl Try.underlying37 info3 rfl (by decide) (by omega) _ L q.pos [.int .i64 q.pos] (fun q => w.heap.size ≤ q) (fun _ => False) rfl rfl ?aP (fun _ hk => hk.elim) ?aF ?aO ?aB ?aS ?aL ?_); (case aP => exact rfl); (case aF => exact fun i hi => Nat.le_trans B6.out.size hi); (case aO => exact R6.out); (case aB => exact Below.refl _ _); (case aS => exact B6.out.size); (case aL => omega); intro v7 w7 ho7 hb7 hg7 hat7; have HO7 := Aside0.mk ho7; have HB7 := Aside0.mk (B6.out.trans hb7); clear ho7 hb7 hg7 hat7)
        go_roundg (t.l.length - (k + 1))
        case measure => have := HGN.out; omega
        case rel => exact ⟨k + 1, by go_num, ⟨by have := HGN.out; omega⟩, HB7, ⟨by have h1 := HO7.out; rw [HLE.out] at h1; rw [readyL_step HTS.out HE.out]; exact h1⟩⟩
    · go_wp2_with fail
      go_ret
      rw [List.take_of_length_le (by omega)] at hR
      exact ⟨_, rfl, hR.out, hB.out⟩
set_option maxRecDepth 100000 in
set_option maxHeartbeats 4000000 in
theorem waits_any (t : TS) (A : Option Addr) (c : Nat) (base p : Nat) (ok : Nat → Prop) (pos : Int) (w : World) (hN : TNet w base p ok t A c) (hs : t.l.length * 8 ≤ 140737488355320) :
    Calls Try.prog 16 #[.pointer (some ⟨p, 0, none⟩), .int .i64 pos] w fun e w' => ∃ v, e = .returned (.tuple #[v, .int .i64 (t.waits pos).2]) ∧ (Kd.int .i64).R 3 w' w.heap.size (fun q => w.heap.size ≤ q) v (t.waits pos).1 ∧ Below w.heap.size w w' := by
  have HN := Aside0.mk hN
  clear hN
  go_enter Try.func16, Try.ntmps16
  go_wp2_with fail
  refine (find_any t.l pos A c _ p w HN.out.blk HN.out.C).mono ?_
  rintro e w1 ⟨r, rfl, hr, hb1⟩
  have B1 := Aside0.mk hb1
  have HC1 := Aside0.mk (Kd.C_below HN.out.C hb1)
  have f1 := pw_cell_below hb1 HN.out.f0
  clear hb1
  rcases hr.find with ⟨hf, rfl⟩ | ⟨i, hf, rfl, hi⟩
  · have HF := Lib.hid hf
    clear hf hr
    go_wp2_with fail
    refine bodyPost_ret (results_list (rs := [_, _]) rfl (by simp) (.tmp (.tmp .nil))) rfl ⟨_, by rw [waits_no HF.out]; rfl, by rw [waits_no HF.out]; exact Kd.R_nil _ _ _ _ _, B1.out⟩
  · have HF := Lib.hid hf
    obtain ⟨ad, x, X, xd, rfl, hx, hxm, hxt, x0, x1, hxl, hCx⟩ := pl_at HC1.out (Below.refl _ _) i hi
    have HX := Lib.hid hx
    have HCX := Aside0.mk hCx
    have p0 : (0 : Int) ≤ i := by omega
    have p1 : (i : Int) < t.l.length := by omega
    clear hf hr hx hxm hxt hCx hxl
    go_wp2_with fail
    refine (ahead_any x X xd w1).mono ?_
    rintro e w2 ⟨g, rfl, hg, hb2⟩
    have G2 := Aside0.mk hg
    have B2 := Aside0.mk (below_then B1.out B1.out.size hb2)
    have HC2 := Aside0.mk (Kd.C_below HC1.out hb2)
    have HCX2 := Aside0.mk (Kd.C_below HCX.out hb2)
    have f2 := pw_cell_below hb2 f1
    have HS2 := Lib.hid B2.out.size
    clear hg hb2 f1 x0 x1 p0 p1
    go_wp2_with fail
    go_loopg [7, 29] t.l.length (fun gn v i wr => ∃ k : Nat, i = .int .i64 k ∧ Aside0 (k + gn = t.l.length) ∧ Aside0 (Below w2.heap.size w2 wr) ∧ Aside0 ((Kd.int .i64).R 3 wr w2.heap.size (fun q => w2.heap.size ≤ q) v (keepL x (t.l.take k))))
    case atStart => exact ⟨0, rfl, ⟨by omega⟩, ⟨Below.refl _ _⟩, ⟨Kd.R_nil _ _ _ _ _⟩⟩
    case round =>
      obtain ⟨k, rfl, ⟨hgn⟩, hB, hR⟩ := hrel
      have HGN := Lib.hid hgn
      clear hgn
      by_cases hk : k < t.l.length
      · obtain ⟨ad', q, B, d, had, hq, hqm, hqt, q0, q1, hl, hCb⟩ := pl_at HC2.out hB.out k hk
        obtain rfl : ad = ad' := Option.some.inj had
        have HTS := Lib.hid hqt
        obtain ⟨L, hL⟩ : ∃ L, L = keepL x (t.l.take k) := ⟨_, rfl⟩
        rw [← hL] at hR
        have HLE := Lib.hid hL
        have hLl : L.length ≤ k := by rw [hL]; exact Nat.le_trans (keepL_len _ _) (by rw [List.length_take]; omega)
        obtain ⟨bx, hbx⟩ : ∃ q, q = wr.heap.size := ⟨_, rfl⟩
        obtain ⟨W2, h2, c2, s2, B2'⟩ := grow (W := wr) hbx.symm #[.int .i64 q.pos, .slice B q.l.length d] 62
        have HB2 := Aside0.mk (below_then hB.out hB.out.size B2')
        have HR2 := Aside0.mk (Kd.R_below hR.out B2')
        have HCb := Aside0.mk hCb
        have H2 := Lib.hid h2
        have HBX := Lib.hid hbx
        have C2 := Aside0.mk c2
        have p0 : (0 : Int) ≤ k := by omega
        have p1 : (k : Int) < t.l.length := by omega
        have z0 := blk_cell c2 0
        have z1 := blk_cell c2 1
        clear hq hqm hqt hL hl hCb h2 c2 s2 B2' hR hbx had
        go_upto_region 9 with (fail)
        rw [← H2.out, ← HBX.out]
        go_wp2_with fail
        refine (c48_any q x X xd B d g W2 (blk_below G2.out HB2.out) (Kd.C_below HCX2.out HB2.out) (Kd.C_below HCb.out HB2.out)).mono ?_
        rintro e w6 ⟨rfl, hb6⟩
        have B6 := Aside0.mk (below_then HB2.out HB2.out.size hb6)
        have R6 := Aside0.mk (Kd.R_below HR2.out hb6)
        have C6 := Aside0.mk (blk_below C2.out hb6)
        clear hb6 z0 z1 q0 q1
        have z0 := blk_cell C6.out 0
        by_cases hE : Ahead x q
        · rw [decide_eq_true hE]
          have HE := Lib.hid hE
          clear hE
          go_wp2_with (at_builtin; go_loud (refine Kd.R_append (Kd.int .i64) (w0 := w6) w2.heap.size rfl (.tmp 36) (.tmp 39) 37 3 _ 8 rfl Try.underlying37 info3 rfl (by decide) (by omega) _ L q.pos [.int .i64 q.pos] (fun q => w2.heap.size ≤ q) (fun _ => False) rfl rfl ?aP (fun _ hk => hk.elim) ?aF ?aO ?aB ?aS ?aL ?_); (case aP => exact rfl); (case aF => exact fun i hi => Nat.le_trans B6.out.size hi); (case aO => exact R6.out); (case aB => exact Below.refl _ _); (case aS => exact B6.out.size); (case aL => omega); intro v7 w7 ho7 hb7 hg7 hat7; have HO7 := Aside0.mk ho7; have HB7 := Aside0.mk (B6.out.trans hb7); clear ho7 hb7 hg7 hat7)
          go_roundg (t.l.length - (k + 1))
          case measure => have := HGN.out; omega
          case rel => exact ⟨k + 1, by go_num, ⟨by have := HGN.out; omega⟩, HB7, ⟨by have h1 := HO7.out; rw [HLE.out] at h1; rw [keepL_step HTS.out HE.out]; exact h1⟩⟩
        · rw [decide_eq_false hE]
          have HE := Lib.hid hE
          clear hE
          go_wp2_with fail
          go_roundg (t.l.length - (k + 1))
          case measure => have := HGN.out; omega
          case rel => exact ⟨k + 1, by go_num, ⟨by have := HGN.out; omega⟩, B6, ⟨by have h1 := R6.out; rw [HLE.out] at h1; rw [keepL_stay HTS.out HE.out]; exact h1⟩⟩
      · go_wp2_with fail
        rw [List.take_of_length_le (by omega)] at hR
        refine bodyPost_ret (results_list (rs := [_, _]) rfl (by simp) (.tmp (.tmp .nil))) rfl ⟨_, by rw [waits_yes HF.out]; rfl, by rw [waits_yes HF.out, HX.out]; exact Kd.R_mono (Kd.R_lower hR.out HS2.out) (fun q h => Nat.le_trans HS2.out h), below_then B2.out HS2.out hB.out⟩
end Go.Proofs.Ytajblhainchplaa
