/- Layer 19: the walks of the reference's waits, Granted, Waits. -/
import Derived.Test.YtajblhainchplaaJ14
set_option linter.unusedVariables false
set_option linter.unusedSimpArgs false
namespace Go.Proofs.Ytajblhainchplaa
open Go.RowKit Go.Proofs.YtajblhainchplaaW.PrintWords Go.Proofs.YtajblhainchplaaW.PrintLast
structure Srt (t : TS) : Prop where
  low : -1 ≤ t.last
  up : t.l.Pairwise (fun a b => a.pos < b.pos)
  le : ∀ q ∈ t.l, q.pos ≤ t.last
theorem Srt.start : Srt t0 := ⟨by decide, List.Pairwise.nil, by simp [t0]⟩
theorem Srt.ask {t : TS} (h : Srt t) (pos : Int) (l : List Lk) : Srt (t.ask pos l).2 := by
  unfold TS.ask
  split
  · exact h
  · split
    · exact h
    · refine ⟨?_, ?_, ?_⟩
      · show -1 ≤ pos; have := h.low; omega
      · show (t.l ++ [_]).Pairwise _
        rw [List.pairwise_append]
        exact ⟨h.up, List.pairwise_singleton _ _, fun a ha b hb => by rw [List.mem_singleton.1 hb]; have := h.le a ha; show a.pos < pos; omega⟩
      · intro q hq
        show q.pos ≤ pos
        rcases List.mem_append.1 hq with hq | hq
        · have := h.le q hq; omega
        · rw [List.mem_singleton.1 hq]; exact Int.le_refl _
theorem Srt.release {t : TS} (h : Srt t) (pos : Int) : Srt (t.release pos).2 := by
  unfold TS.release
  split
  · exact h
  · split
    · exact h
    · exact ⟨h.low, h.up.sublist (List.eraseIdx_sublist _ _), fun q hq => h.le q (List.mem_of_mem_eraseIdx hq)⟩
def meetL (x : Plc) (m : List Plc) : List Int := (m.filter (fun q => decide (MeetAny x.l q.l))).map (·.pos)
theorem meetL_step {m m' : List Plc} {x p : Plc} (h : m' = m ++ [p]) (hn : MeetAny x.l p.l) : meetL x m' = meetL x m ++ [p.pos] := by
  unfold meetL; rw [h, List.filter_append, List.map_append]; simp only [List.filter_cons, List.filter_nil]; rw [if_pos (decide_eq_true hn)]; rfl
theorem meetL_stay {m m' : List Plc} {x p : Plc} (h : m' = m ++ [p]) (hn : ¬ MeetAny x.l p.l) : meetL x m' = meetL x m := by
  unfold meetL; rw [h, List.filter_append, List.map_append, List.filter_cons_of_neg (by simpa using hn)]; simp
theorem meetL_len (x : Plc) (m : List Plc) : (meetL x m).length ≤ m.length := by unfold meetL; rw [List.length_map]; exact List.length_filter_le _ _
theorem keep_meet {l : List Plc} (h : l.Pairwise (fun a b => a.pos < b.pos)) {k : Nat} (hk : k < l.length) : keepL (l.getD k default) l = meetL (l.getD k default) (l.take k) := by
  obtain ⟨x, hx⟩ : ∃ x, l.getD k default = x := ⟨_, rfl⟩
  rw [hx]
  have hg : l[k] = x := by rw [List.getD_eq_getElem?_getD, List.getElem?_eq_getElem hk] at hx; exact hx
  have hd : l.drop k = x :: l.drop (k + 1) := by rw [List.drop_eq_getElem_cons hk, hg]
  have hs : l = l.take k ++ l.drop k := (List.take_append_drop k l).symm
  have hp : (l.take k ++ l.drop k).Pairwise (fun a b => a.pos < b.pos) := by rw [← hs]; exact h
  rw [List.pairwise_append] at hp
  obtain ⟨_, hp2, hp3⟩ := hp
  rw [hd] at hp2 hp3
  have h1 : keepL x l = keepL x (l.take k) ++ keepL x (l.drop k) := by
    conv => lhs; rw [hs]
    unfold keepL; rw [List.filter_append, List.map_append]
  have h2 : keepL x (l.drop k) = [] := by
    unfold keepL
    rw [hd, List.map_eq_nil_iff, List.filter_eq_nil_iff]
    intro q hq
    rcases List.mem_cons.1 hq with rfl | hq
    · simp only [decide_eq_true_eq]; exact fun h => absurd h.1 (by omega)
    · have := List.rel_of_pairwise_cons hp2 hq
      simp only [decide_eq_true_eq]; exact fun h => absurd h.1 (by omega)
  rw [h1, h2, List.append_nil]
  unfold keepL meetL
  congr 1
  apply List.filter_congr
  intro q hq
  have := hp3 q hq x (List.mem_cons_self ..)
  exact decide_eq_decide.2 ⟨fun h => meetAny_comm.1 h.2, fun h => ⟨this, meetAny_comm.1 h⟩⟩
theorem keep_nil {l : List Plc} {x : Plc} : (keepL x l).length = 0 ↔ ¬ ∃ q ∈ l, Ahead x q := by
  unfold keepL
  rw [List.length_map, List.length_eq_zero_iff, List.filter_eq_nil_iff]
  constructor
  · rintro h ⟨q, hq, ha⟩; exact h q hq (decide_eq_true ha)
  · intro h q hq; simp only [decide_eq_true_eq]; exact fun ha => h ⟨q, hq, ha⟩
set_option maxRecDepth 100000 in
set_option maxHeartbeats 4000000 in
theorem rwait_any (t : TS) (A : Option Addr) (c : Nat) (base p : Nat) (ok : Nat → Prop) (i : Nat) (w : World) (hN : RNet w base p ok t A c) (hs : t.l.length * 8 ≤ 140737488355320) (hS : Srt t) (hi : i < t.l.length) :
    Calls Try.prog 45 #[.pointer (some ⟨p, 0, none⟩), .int .i64 i] w fun e w' => ∃ v, e = .returned v ∧ (Kd.int .i64).R 3 w' w.heap.size (fun q => w.heap.size ≤ q) v (keepL (t.l.getD i default) t.l) ∧ Below w.heap.size w w' := by
  rw [keep_meet hS.up hi]
  have f0 := hN.f0
  have HC := Aside0.mk hN.C
  have HI := Lib.hid hi
  obtain ⟨x, hx⟩ : ∃ x, t.l.getD i default = x := ⟨_, rfl⟩
  rw [hx]
  have HX := Lib.hid hx
  clear hN hS hx
  go_enter Try.func45, Try.ntmps45
  go_wp2_with fail
  go_loopg [5, 6] i (fun gn v n wr => ∃ k : Nat, n = .int .i64 k ∧ Aside0 (k + gn = i) ∧ Aside0 (Below w.heap.size w wr) ∧ Aside0 ((Kd.int .i64).R 3 wr w.heap.size (fun q => w.heap.size ≤ q) v (meetL x (t.l.take k))))
  case atStart => exact ⟨0, rfl, ⟨by omega⟩, ⟨Below.refl _ _⟩, ⟨Kd.R_nil _ _ _ _ _⟩⟩
  case round =>
    obtain ⟨k, rfl, ⟨hgn⟩, hB, hR⟩ := hrel
    have HGN := Lib.hid hgn
    clear hgn
    by_cases hk : k < i
    · obtain ⟨ad, q, B, d, rfl, hq, hqm, hqt, q0, q1, hl, hCb⟩ := pl_at HC.out hB.out k (by omega)
      obtain ⟨ad', x', X, xd, had, hx', _, _, _, x1, _, hCx⟩ := pl_at HC.out hB.out i HI.out
      obtain rfl : ad = ad' := Option.some.inj had
      obtain rfl : x = x' := by rw [← HX.out, ← hx']
      have HTS := Lib.hid hqt
      obtain ⟨L, hL⟩ : ∃ L, L = meetL x (t.l.take k) := ⟨_, rfl⟩
      rw [← hL] at hR
      have HLE := Lib.hid hL
      have hLl : L.length ≤ k := by rw [hL]; exact Nat.le_trans (meetL_len _ _) (by rw [List.length_take]; omega)
      have HCB := Aside0.mk hCb
      have HCX := Aside0.mk hCx
      have f1 := pw_cell_below hB.out f0
      have p0 : (0 : Int) ≤ k := by omega
      have p1 : (k : Int) < i := by omega
      have p2 : (i : Int) < t.l.length := by omega
      have p3 : (k : Int) < t.l.length := by omega
      have p4 : (0 : Int) ≤ i := by omega
      clear hq hqm hqt hL hl hCb hCx hx' had
      go_wp2_with fail
      refine start_ (n := 18) (S := fun w' => w'.cell? ⟨p, 0, none⟩ = some (.slice (some ad) t.l.length c) ∧ w'.cell? { block := (ad.add (i * 2)).block, off := (ad.add (i * 2)).off + 1 } = some (.slice X x.l.length xd) ∧ w'.cell? { block := (ad.add (k * 2)).block, off := (ad.add (k * 2)).off + 1 } = some (.slice B q.l.length d)) (ds := []) #[false, false, false, false, false, false, false, false, false, false, false, false, false, false, false, false, false, false] (by kernel_rfl) rfl rfl ⟨f1, x1, q1⟩ (fun hHeld => ?_)
      refine pure_ (i := 0) (N := some 13) (v := ?_) (a' := ?_) #[true, false, false, false, false, false, false, false, false, false, false, false, false, false, false, false, false, false] rfl rfl (by kernel_rfl) (fun _ _ _ h => h) (Or.inl ⟨by rfl, ?_⟩) ?_ ?_
      rotate_left
      · intro w'
        go_simp
        with_reducible rfl
      rotate_left
      · simp only [Act.put, List.setIfInBounds_toArray, List.set_cons_zero, List.set_cons_succ, i64_w, i32_w]
        rfl
      refine pure_ (i := 1) (N := some 14) (v := ?_) (a' := ?_) #[true, true, false, false, false, false, false, false, false, false, false, false, false, false, false, false, false, false] rfl rfl (by kernel_rfl) (fun _ _ _ h => h) (Or.inl ⟨by rfl, ?_⟩) ?_ ?_
      rotate_left
      · intro w'
        go_simp
        with_reducible rfl
      rotate_left
      · simp only [Act.put, List.setIfInBounds_toArray, List.set_cons_zero, List.set_cons_succ, i64_w, i32_w]
        rfl
      refine pure_ (i := 2) (N := some 15) (v := ?_) (a' := ?_) #[true, true, true, false, false, false, false, false, false, false, false, false, false, false, false, false, false, false] rfl rfl (by kernel_rfl) (fun _ _ _ h => h) (Or.inl ⟨by rfl, ?_⟩) ?_ ?_
      rotate_left
      · intro w'
        go_simp
        with_reducible rfl
      rotate_left
      · simp only [Act.put, List.setIfInBounds_toArray, List.set_cons_zero, List.set_cons_succ, i64_w, i32_w]
        rfl
      refine pure_ (i := 4) (N := some 17) (v := ?_) (a' := ?_) #[true, true, true, false, true, false, false, false, false, false, false, false, false, false, false, false, false, false] rfl rfl (by kernel_rfl) (fun _ _ _ h => h) (Or.inl ⟨by rfl, ?_⟩) ?_ ?_
      rotate_left
      · intro w'
        go_simp
        with_reducible rfl
      rotate_left
      · simp only [Act.put, List.setIfInBounds_toArray, List.set_cons_zero, List.set_cons_succ, i64_w, i32_w]
        rfl
      refine pure_ (i := 8) (N := some 21) (v := ?_) (a' := ?_) #[true, true, true, false, true, false, false, false, true, false, false, false, false, false, false, false, false, false] rfl rfl (by kernel_rfl) (fun _ _ _ h => h) (Or.inl ⟨by rfl, ?_⟩) ?_ ?_
      rotate_left
      · intro w'
        go_simp
        with_reducible rfl
      rotate_left
      · simp only [Act.put, List.setIfInBounds_toArray, List.set_cons_zero, List.set_cons_succ, i64_w, i32_w]
        rfl
      refine pure_ (i := 9) (N := some 22) (v := ?_) (a' := ?_) #[true, true, true, false, true, false, false, false, true, true, false, false, false, false, false, false, false, false] rfl rfl (by kernel_rfl) (fun _ _ _ h => h) (Or.inl ⟨by rfl, ?_⟩) ?_ ?_
      rotate_left
      · intro w'
        go_simp
        with_reducible rfl
      rotate_left
      · simp only [Act.put, List.setIfInBounds_toArray, List.set_cons_zero, List.set_cons_succ, i64_w, i32_w]
        rfl
      refine pure_ (i := 10) (N := some 23) (v := ?_) (a' := ?_) #[true, true, true, false, true, false, false, false, true, true, true, false, false, false, false, false, false, false] rfl rfl (by kernel_rfl) (fun _ _ _ h => h) (Or.inl ⟨by rfl, ?_⟩) ?_ ?_
      rotate_left
      · intro w'
        go_simp
        with_reducible rfl
      rotate_left
      · simp only [Act.put, List.setIfInBounds_toArray, List.set_cons_zero, List.set_cons_succ, i64_w, i32_w]
        rfl
      refine pure_ (i := 12) (N := some 25) (v := ?_) (a' := ?_) #[true, true, true, false, true, false, false, false, true, true, true, false, true, false, false, false, false, false] rfl rfl (by kernel_rfl) (fun _ _ _ h => h) (Or.inl ⟨by rfl, ?_⟩) ?_ ?_
      rotate_left
      · intro w'
        go_simp
        with_reducible rfl
      rotate_left
      · simp only [Act.put, List.setIfInBounds_toArray, List.set_cons_zero, List.set_cons_succ, i64_w, i32_w]
        rfl
      refine take_ (i := 3) (N := some 16) (v := ?_) (a' := ?_) #[true, true, true, true, true, false, false, false, true, true, true, false, true, false, false, false, false, false] rfl rfl (by kernel_rfl) (fun _ _ _ h => h) (Or.inl ⟨by rfl, ?_⟩) hHeld ?_ ?_
      rotate_left
      · rintro w' ⟨s0, s1, s2⟩
        go_simp
        with_reducible rfl
      rotate_left
      · simp only [Act.put, List.setIfInBounds_toArray, List.set_cons_zero, List.set_cons_succ, i64_w, i32_w]
        rfl
      refine pure_ (i := 5) (N := some 18) (v := ?_) (a' := ?_) #[true, true, true, true, true, true, false, false, true, true, true, false, true, false, false, false, false, false] rfl rfl (by kernel_rfl) (fun _ _ _ h => h) (Or.inl ⟨by rfl, ?_⟩) ?_ ?_
      rotate_left
      · intro w'
        go_simp
        with_reducible rfl
      rotate_left
      · simp only [Act.put, List.setIfInBounds_toArray, List.set_cons_zero, List.set_cons_succ, i64_w, i32_w]
        rfl
      refine pure_ (i := 6) (N := some 19) (v := ?_) (a' := ?_) #[true, true, true, true, true, true, true, false, true, true, true, false, true, false, false, false, false, false] rfl rfl (by kernel_rfl) (fun _ _ _ h => h) (Or.inl ⟨by rfl, ?_⟩) ?_ ?_
      rotate_left
      · intro w'
        go_simp
        with_reducible rfl
      rotate_left
      · simp only [Act.put, List.setIfInBounds_toArray, List.set_cons_zero, List.set_cons_succ, i64_w, i32_w]
        rfl
      refine take_ (i := 7) (N := some 20) (v := ?_) (a' := ?_) #[true, true, true, true, true, true, true, true, true, true, true, false, true, false, false, false, false, false] rfl rfl (by kernel_rfl) (fun _ _ _ h => h) (Or.inl ⟨by rfl, ?_⟩) hHeld ?_ ?_
      rotate_left
      · rintro w' ⟨s0, s1, s2⟩
        go_simp
        with_reducible rfl
      rotate_left
      · simp only [Act.put, List.setIfInBounds_toArray, List.set_cons_zero, List.set_cons_succ, i64_w, i32_w]
        rfl
      refine take_ (i := 11) (N := some 24) (v := ?_) (a' := ?_) #[true, true, true, true, true, true, true, true, true, true, true, true, true, false, false, false, false, false] rfl rfl (by kernel_rfl) (fun _ _ _ h => h) (Or.inl ⟨by rfl, ?_⟩) hHeld ?_ ?_
      rotate_left
      · rintro w' ⟨s0, s1, s2⟩
        go_simp
        with_reducible rfl
      rotate_left
      · simp only [Act.put, List.setIfInBounds_toArray, List.set_cons_zero, List.set_cons_succ, i64_w, i32_w]
        rfl
      refine pure_ (i := 13) (N := some 26) (v := ?_) (a' := ?_) #[true, true, true, true, true, true, true, true, true, true, true, true, true, true, false, false, false, false] rfl rfl (by kernel_rfl) (fun _ _ _ h => h) (Or.inl ⟨by rfl, ?_⟩) ?_ ?_
      rotate_left
      · intro w'
        go_simp
        with_reducible rfl
      rotate_left
      · simp only [Act.put, List.setIfInBounds_toArray, List.set_cons_zero, List.set_cons_succ, i64_w, i32_w]
        rfl
      refine pure_ (i := 14) (N := some 27) (v := ?_) (a' := ?_) #[true, true, true, true, true, true, true, true, true, true, true, true, true, true, true, false, false, false] rfl rfl (by kernel_rfl) (fun _ _ _ h => h) (Or.inl ⟨by rfl, ?_⟩) ?_ ?_
      rotate_left
      · intro w'
        go_simp
        with_reducible rfl
      rotate_left
      · simp only [Act.put, List.setIfInBounds_toArray, List.set_cons_zero, List.set_cons_succ, i64_w, i32_w]
        rfl
      refine take_ (i := 15) (N := some 28) (v := ?_) (a' := ?_) #[true, true, true, true, true, true, true, true, true, true, true, true, true, true, true, true, false, false] rfl rfl (by kernel_rfl) (fun _ _ _ h => h) (Or.inl ⟨by rfl, ?_⟩) hHeld ?_ ?_
      rotate_left
      · rintro w' ⟨s0, s1, s2⟩
        go_simp
        with_reducible rfl
      rotate_left
      · simp only [Act.put, List.setIfInBounds_toArray, List.set_cons_zero, List.set_cons_succ, i64_w, i32_w]
        rfl
      refine one_ (i := 16) (N := some 29) #[true, true, true, true, true, true, true, true, true, true, true, true, true, true, true, true, true, false] rfl rfl (by kernel_rfl) (by decide) (fun K hK => ?_)
      refine goes_ Try.func17 (by kernel_rfl) rfl #[.slice X x.l.length xd, .slice B q.l.length d] (by rfl) rfl rfl (by simp only [List.map_toArray, List.map_cons, List.map_nil]; rfl) ?_
      with_reducible refine (rmeetAny_any X xd x.l B d q.l wr.drew (Kd.C_below HCX.out (below_drew hB.out)) (Kd.C_below HCB.out (below_drew hB.out))).mono ?_
      rintro e w6 ⟨rfl, hb5⟩
      refine ⟨_, rfl, ?_⟩
      have B6 := Aside0.mk (below_then (below_drew hB.out) hB.out.size hb5)
      have B5q := Aside0.mk (below_then (below_drew (Below.refl wr.heap.size wr)) (Nat.le_refl _) hb5)
      have R6 := Aside0.mk (Kd.R_below (w := wr.drew) (Kd.R_below hR.out (below_drew (Below.refl _ _))) hb5)
      clear hb5
      refine hK.out _ _ ⟨pw_cell_below B5q.out f1, pw_cell_below B5q.out x1, pw_cell_below B5q.out q1⟩ (fun hHeld => ?_)
      clear hK K
      refine norm_ (a' := ?_) ?_ ?_
      rotate_left
      · show Act.put _ (some 29) _ = _
        simp only [Act.put, List.setIfInBounds_toArray, List.set_cons_zero, List.set_cons_succ, i64_w, i32_w]
        rfl
      refine pure_ (i := 17) (N := some 7) (v := ?_) (a' := ?_) #[true, true, true, true, true, true, true, true, true, true, true, true, true, true, true, true, true, true] rfl rfl (by kernel_rfl) (fun _ _ _ h => h) (Or.inl ⟨by rfl, ?_⟩) ?_ ?_
      rotate_left
      · intro w'
        go_simp
        with_reducible rfl
      rotate_left
      · simp only [Act.put, List.setIfInBounds_toArray, List.set_cons_zero, List.set_cons_succ, i64_w, i32_w]
        rfl
      refine done_ (by kernel_rfl) ?_
      have f6 := pw_cell_below B5q.out f1
      have q6 := pw_cell_below B5q.out q0
      clear hHeld f1 x1 q1 q0
      by_cases hE : MeetAny x.l q.l
      · rw [decide_eq_true hE]
        have HE := Lib.hid hE
        clear hE
        go_wp2_with (at_builtin; go_loud (refine Kd.R_append (Kd.int .i64) (w0 := w6) w.heap.size rfl (.tmp 31) (.tmp 40) 37 3 _ 8 rfl Try.underlying37 info3 rfl (by decide) (by omega) _ L q.pos [.int .i64 q.pos] (fun q => w.heap.size ≤ q) (fun _ => False) rfl rfl ?aP (fun _ hk => hk.elim) ?aF ?aO ?aB ?aS ?aL ?_); (case aP => exact rfl); (case aF => exact fun i hi => Nat.le_trans B6.out.size hi); (case aO => exact R6.out); (case aB => exact Below.refl _ _); (case aS => exact B6.out.size); (case aL => omega); intro v7 w7 ho7 hb7 hg7 hat7; have HO7 := Aside0.mk ho7; have HB7 := Aside0.mk (B6.out.trans hb7); clear ho7 hb7 hg7 hat7)
        go_roundg (i - (k + 1))
        case measure => have := HGN.out; omega
        case rel => exact ⟨k + 1, by go_num, ⟨by have := HGN.out; omega⟩, HB7, ⟨by have h1 := HO7.out; rw [HLE.out] at h1; rw [meetL_step HTS.out HE.out]; exact h1⟩⟩
      · rw [decide_eq_false hE]
        have HE := Lib.hid hE
        clear hE
        go_wp2_with fail
        go_roundg (i - (k + 1))
        case measure => have := HGN.out; omega
        case rel => exact ⟨k + 1, by go_num, ⟨by have := HGN.out; omega⟩, B6, ⟨by have h1 := R6.out; rw [HLE.out] at h1; rw [meetL_stay HTS.out HE.out]; exact h1⟩⟩
    · have p1 : ¬ (k : Int) < i := by omega
      obtain rfl : k = i := by have := HGN.out; omega
      go_wp2_with fail
      go_ret
      exact ⟨_, rfl, hR.out, hB.out⟩
set_option maxRecDepth 100000 in
set_option maxHeartbeats 4000000 in
theorem rgranted_any (t : TS) (A : Option Addr) (c : Nat) (base p : Nat) (ok : Nat → Prop) (w : World) (hN : RNet w base p ok t A c) (hs : t.l.length * 8 ≤ 140737488355320) (hS : Srt t) :
    Calls Try.prog 28 #[.pointer (some ⟨p, 0, none⟩)] w fun e w' => ∃ v, e = .returned v ∧ (Kd.int .i64).R 3 w' w.heap.size (fun q => w.heap.size ≤ q) v t.ready ∧ Below w.heap.size w w' := by
  have f0 := hN.f0
  have HC := Aside0.mk hN.C
  have HN := Aside0.mk hN
  have HS := Aside0.mk hS
  clear hN hS
  go_enter Try.func28, Try.ntmps28
  go_wp2_with fail
  go_loopg [3, 4] t.l.length (fun gn v n wr => ∃ k : Nat, n = .int .i64 k ∧ Aside0 (k + gn = t.l.length) ∧ Aside0 (Below w.heap.size w wr) ∧ Aside0 ((Kd.int .i64).R 3 wr w.heap.size (fun q => w.heap.size ≤ q) v (readyL t.l (t.l.take k))))
  case atStart => exact ⟨0, rfl, ⟨by omega⟩, ⟨Below.refl _ _⟩, ⟨Kd.R_nil _ _ _ _ _⟩⟩
  case round =>
    obtain ⟨k, rfl, ⟨hgn⟩, hB, hR⟩ := hrel
    have HGN := Lib.hid hgn
    have f1 := pw_cell_below hB.out f0
    clear hgn
    by_cases hk : k < t.l.length
    · obtain ⟨ad, q, B, d, rfl, hq, hqm, hqt, q0, q1, hl, hCb⟩ := pl_at HC.out hB.out k hk
      have HTS := Lib.hid hqt
      have HQ := Lib.hid hq
      obtain ⟨L, hL⟩ : ∃ L, L = readyL t.l (t.l.take k) := ⟨_, rfl⟩
      rw [← hL] at hR
      have HLE := Lib.hid hL
      have hLl : L.length ≤ k := by rw [hL]; exact Nat.le_trans (readyL_len _ _) (by rw [List.length_take]; omega)
      have p0 : (0 : Int) ≤ k := by omega
      have p1 : (k : Int) < t.l.length := by omega
      clear hq hqm hqt hL hl hCb q1
      go_wp2_with fail
      refine (rwait_any t (some ad) c base p ok k wr (HN.out.below hB.out) hs HS.out hk).mono ?_
      rintro e w6 ⟨v6, rfl, hv6, hb6⟩
      rw [HQ.out] at hv6
      obtain ⟨V6, vc6, rfl⟩ := Kd.R_slice hv6
      obtain ⟨n6, hn6⟩ : ∃ n, n = (keepL q t.l).length := ⟨_, rfl⟩
      rw [← hn6]
      have HN6 := Lib.hid hn6
      have B6 := Aside0.mk (below_then hB.out hB.out.size hb6)
      have R6 := Aside0.mk (Kd.R_below hR.out hb6)
      have f6 := pw_cell_below hb6 f1
      have q6 := pw_cell_below hb6 q0
      clear hv6 hb6 hn6 f1 q0
      by_cases hE : n6 = 0
      · have e1 : ((n6 : Int) == 0) = true := int_beq_true (by omega)
        have HE := Lib.hid (keep_nil.1 (by rw [← HN6.out]; exact hE))
        clear hE
        go_wp2_with (at_builtin; go_loud (refine Kd.R_append (Kd.int .i64) (w0 := w6) w.heap.size rfl (.tmp 21) (.tmp 30) 37 3 _ 8 rfl Try.underlying37 info3 rfl (by decide) (by omega) _ L q.pos [.int .i64 q.pos] (fun q => w.heap.size ≤ q) (fun _ => False) rfl rfl ?aP (fun _ hk => hk.elim) ?aF ?aO ?aB ?aS ?aL ?_); (case aP => exact rfl); (case aF => exact fun i hi => Nat.le_trans B6.out.size hi); (case aO => exact R6.out); (case aB => exact Below.refl _ _); (case aS => exact B6.out.size); (case aL => omega); intro v7 w7 ho7 hb7 hg7 hat7; have HO7 := Aside0.mk ho7; have HB7 := Aside0.mk (B6.out.trans hb7); clear ho7 hb7 hg7 hat7)
        go_roundg (t.l.length - (k + 1))
        case measure => have := HGN.out; omega
        case rel => exact ⟨k + 1, by go_num, ⟨by have := HGN.out; omega⟩, HB7, ⟨by have h1 := HO7.out; rw [HLE.out] at h1; rw [readyL_step HTS.out HE.out]; exact h1⟩⟩
      · have e1 : ((n6 : Int) == 0) = false := int_beq_false (by omega)
        have HE := Lib.hid (show ∃ x ∈ t.l, Ahead q x from Classical.not_not.1 (fun h => hE (by rw [HN6.out]; exact keep_nil.2 h)))
        clear hE
        go_wp2_with fail
        go_roundg (t.l.length - (k + 1))
        case measure => have := HGN.out; omega
        case rel => exact ⟨k + 1, by go_num, ⟨by have := HGN.out; omega⟩, B6, ⟨by have h1 := R6.out; rw [HLE.out] at h1; rw [readyL_stay HTS.out HE.out]; exact h1⟩⟩
    · have p1 : ¬ (k : Int) < t.l.length := by omega
      go_wp2_with fail
      go_ret
      rw [List.take_of_length_le (by omega)] at hR
      exact ⟨_, rfl, hR.out, hB.out⟩
set_option maxRecDepth 100000 in
set_option maxHeartbeats 4000000 in
theorem rwaits_any (t : TS) (A : Option Addr) (c : Nat) (base p : Nat) (ok : Nat → Prop) (pos : Int) (w : World) (hN : RNet w base p ok t A c) (hs : t.l.length * 8 ≤ 140737488355320) (hS : Srt t) :
    Calls Try.prog 41 #[.pointer (some ⟨p, 0, none⟩), .int .i64 pos] w fun e w' => ∃ v, e = .returned (.tuple #[v, .int .i64 (t.waits pos).2]) ∧ (Kd.int .i64).R 3 w' w.heap.size (fun q => w.heap.size ≤ q) v (t.waits pos).1 ∧ Below w.heap.size w w' := by
  have HN := Aside0.mk hN
  have HS := Aside0.mk hS
  clear hN hS
  go_enter Try.func41, Try.ntmps41
  go_wp2_with fail
  refine (at_any t A c base p ok pos w HN.out).mono ?_
  rintro e w1 ⟨r, rfl, hr, rfl⟩
  rcases hr.find with ⟨hf, rfl⟩ | ⟨i, hf, rfl, hi⟩
  · have HF := Lib.hid hf
    clear hf hr
    go_wp2_with fail
    refine bodyPost_ret (results_list (rs := [_, _]) rfl (by simp) (.tmp (.tmp .nil))) rfl ⟨_, by rw [waits_no HF.out]; rfl, by rw [waits_no HF.out]; exact Kd.R_nil _ _ _ _ _, Below.refl _ _⟩
  · have HF := Lib.hid hf
    have HI := Lib.hid hi
    have p0 : ¬ (i : Int) < 0 := by omega
    clear hf hr hi
    go_wp2_with fail
    refine (rwait_any t A c base p ok i w1 HN.out hs HS.out HI.out).mono ?_
    rintro e w2 ⟨v, rfl, hv, hb⟩
    have HV := Aside0.mk hv
    have HB := Aside0.mk hb
    clear hv hb
    go_wp2_with fail
    refine bodyPost_ret (results_list (rs := [_, _]) rfl (by simp) (.tmp (.tmp .nil))) rfl ⟨_, by rw [waits_yes HF.out]; rfl, by rw [waits_yes HF.out]; exact HV.out, HB.out⟩
end Go.Proofs.Ytajblhainchplaa
