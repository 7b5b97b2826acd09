/- Layer 19: the walks of Release, Locks, Granted. -/
import Derived.Test.YtajblhainchplaaJ9
set_option linter.unusedVariables false
set_option linter.unusedSimpArgs false
namespace Go.Proofs.Ytajblhainchplaa
open Go.RowKit Go.Proofs.YtajblhainchplaaW.PrintWords Go.Proofs.YtajblhainchplaaW.PrintLast
def TS.release (t : TS) (pos : Int) : Int × TS := match findP t.l pos with
  | none => (1, t)
  | some k => if ∃ q ∈ t.l, Ahead (t.l.getD k default) q then (1, t) else (0, ⟨t.l.eraseIdx k, t.last⟩)
theorem release_no {t : TS} {pos : Int} (h : findP t.l pos = none) : t.release pos = (1, t) := by unfold TS.release; rw [h]
theorem release_kept {t : TS} {pos : Int} {k : Nat} (h : findP t.l pos = some k) (h2 : ∃ q ∈ t.l, Ahead (t.l.getD k default) q) : t.release pos = (1, t) := by unfold TS.release; rw [h]; exact if_pos h2
theorem release_ok {t : TS} {pos : Int} {k : Nat} (h : findP t.l pos = some k) (h2 : ¬ ∃ q ∈ t.l, Ahead (t.l.getD k default) q) : t.release pos = (0, ⟨t.l.eraseIdx k, t.last⟩) := by unfold TS.release; rw [h]; exact if_neg h2
def TS.locks (t : TS) (pos : Int) : List Lk × Int := match findP t.l pos with
  | none => ([], 1)
  | some k => ((t.l.getD k default).l, 0)
theorem locks_no {t : TS} {pos : Int} (h : findP t.l pos = none) : t.locks pos = ([], 1) := by unfold TS.locks; rw [h]
theorem locks_yes {t : TS} {pos : Int} {k : Nat} (h : findP t.l pos = some k) : t.locks pos = ((t.l.getD k default).l, 0) := by unfold TS.locks; rw [h]
set_option maxRecDepth 100000 in
set_option maxHeartbeats 4000000 in
theorem release_any (t : TS) (A : Option Addr) (c : Nat) (base p : Nat) (ok : Nat → Prop) (pos : Int) (w : World) (hN : TNet w base p ok t A c) (hb0 : base ≤ w.heap.size) (hs : t.l.length * 32 ≤ 140737488355328) :
    Calls Try.prog 24 #[.pointer (some ⟨p, 0, none⟩), .int .i64 pos] w (TStep base p ok (.int .i64 (t.release pos).1) (t.release pos).2 w) := by
  have HN := Aside0.mk hN
  clear hN
  go_enter Try.func24, Try.ntmps24
  go_wp2_with fail
  refine (find_any t.l pos A c _ p w HN.out.blk HN.out.C).mono ?_
  rintro e w1 ⟨r, rfl, hr, hb1⟩
  have B1 := Aside0.mk hb1
  have N1 := Aside0.mk (HN.out.below hb1)
  have HC1 := Aside0.mk N1.out.C
  have f1 := N1.out.f0
  clear hb1
  rcases hr.find with ⟨hf, rfl⟩ | ⟨i, hf, rfl, hi⟩
  · have HF := Lib.hid hf
    clear hf hr
    go_wp2_with fail
    refine start_ (n := 17) (S := fun w' => w'.cell? ⟨p, 0, none⟩ = some (.slice A t.l.length c)) (ds := []) #[false, false, false, false, false, false, false, false, false, false, false, false, false, false, false, false, false] (by kernel_rfl) rfl rfl (f1) (fun hHeld => ?_)
    refine pure_ (i := 0) (N := some 9) (v := ?_) (a' := ?_) #[true, false, false, false, false, false, false, false, false, false, false, false, false, false, false, false, false] rfl rfl (by kernel_rfl) (fun _ _ _ h => h) (Or.inl ⟨by rfl, ?_⟩) ?_ ?_
    rotate_left
    · intro w'
      go_simp
      with_reducible rfl
    rotate_left
    · simp only [Act.put, List.setIfInBounds_toArray, List.set_cons_zero, List.set_cons_succ, i64_w, i32_w]
      rfl
    refine pure_ (i := 1) (N := some 10) (v := ?_) (a' := ?_) #[true, true, false, false, false, false, false, false, false, false, false, false, false, false, false, false, false] rfl rfl (by kernel_rfl) (fun _ _ _ h => h) (Or.inl ⟨by rfl, ?_⟩) ?_ ?_
    rotate_left
    · intro w'
      go_simp
      with_reducible rfl
    rotate_left
    · simp only [Act.put, List.setIfInBounds_toArray, List.set_cons_zero, List.set_cons_succ, i64_w, i32_w]
      rfl
    refine pure_ (i := 2) (N := some 11) (v := ?_) (a' := ?_) #[true, true, true, false, false, false, false, false, false, false, false, false, false, false, false, false, false] rfl rfl (by kernel_rfl) (fun _ _ _ h => h) (Or.inl ⟨by rfl, ?_⟩) ?_ ?_
    rotate_left
    · intro w'
      go_simp
      with_reducible rfl
    rotate_left
    · simp only [Act.put, List.setIfInBounds_toArray, List.set_cons_zero, List.set_cons_succ, i64_w, i32_w]
      rfl
    refine pure_ (i := 3) (N := some 12) (v := undef) (a' := ?_) #[true, true, true, true, false, false, false, false, false, false, false, false, false, false, false, false, false] rfl rfl (by kernel_rfl) (fun _ _ _ h => h) (Or.inr ⟨by rfl, rfl⟩) ?_ ?_
    rotate_left
    · simp only [Act.put, List.setIfInBounds_toArray, List.set_cons_zero, List.set_cons_succ, i64_w, i32_w]
      rfl
    refine pure_ (i := 4) (N := some 13) (v := undef) (a' := ?_) #[true, true, true, true, true, false, false, false, false, false, false, false, false, false, false, false, false] rfl rfl (by kernel_rfl) (fun _ _ _ h => h) (Or.inr ⟨by rfl, rfl⟩) ?_ ?_
    rotate_left
    · simp only [Act.put, List.setIfInBounds_toArray, List.set_cons_zero, List.set_cons_succ, i64_w, i32_w]
      rfl
    refine pure_ (i := 5) (N := some 14) (v := undef) (a' := ?_) #[true, true, true, true, true, true, false, false, false, false, false, false, false, false, false, false, false] rfl rfl (by kernel_rfl) (fun _ _ _ h => h) (Or.inr ⟨by rfl, rfl⟩) ?_ ?_
    rotate_left
    · simp only [Act.put, List.setIfInBounds_toArray, List.set_cons_zero, List.set_cons_succ, i64_w, i32_w]
      rfl
    refine pure_ (i := 6) (N := some 15) (v := undef) (a' := ?_) #[true, true, true, true, true, true, true, false, false, false, false, false, false, false, false, false, false] rfl rfl (by kernel_rfl) (fun _ _ _ h => h) (Or.inr ⟨by rfl, rfl⟩) ?_ ?_
    rotate_left
    · simp only [Act.put, List.setIfInBounds_toArray, List.set_cons_zero, List.set_cons_succ, i64_w, i32_w]
      rfl
    refine pure_ (i := 7) (N := some 16) (v := undef) (a' := ?_) #[true, true, true, true, true, true, true, true, false, false, false, false, false, false, false, false, false] rfl rfl (by kernel_rfl) (fun _ _ _ h => h) (Or.inr ⟨by rfl, rfl⟩) ?_ ?_
    rotate_left
    · simp only [Act.put, List.setIfInBounds_toArray, List.set_cons_zero, List.set_cons_succ, i64_w, i32_w]
      rfl
    refine pure_ (i := 8) (N := some 17) (v := undef) (a' := ?_) #[true, true, true, true, true, true, true, true, true, false, false, false, false, false, false, false, false] rfl rfl (by kernel_rfl) (fun _ _ _ h => h) (Or.inr ⟨by rfl, rfl⟩) ?_ ?_
    rotate_left
    · simp only [Act.put, List.setIfInBounds_toArray, List.set_cons_zero, List.set_cons_succ, i64_w, i32_w]
      rfl
    refine pure_ (i := 9) (N := some 18) (v := undef) (a' := ?_) #[true, true, true, true, true, true, true, true, true, true, false, false, false, false, false, false, false] rfl rfl (by kernel_rfl) (fun _ _ _ h => h) (Or.inr ⟨by rfl, rfl⟩) ?_ ?_
    rotate_left
    · simp only [Act.put, List.setIfInBounds_toArray, List.set_cons_zero, List.set_cons_succ, i64_w, i32_w]
      rfl
    refine pure_ (i := 10) (N := some 19) (v := undef) (a' := ?_) #[true, true, true, true, true, true, true, true, true, true, true, false, false, false, false, false, false] rfl rfl (by kernel_rfl) (fun _ _ _ h => h) (Or.inr ⟨by rfl, rfl⟩) ?_ ?_
    rotate_left
    · simp only [Act.put, List.setIfInBounds_toArray, List.set_cons_zero, List.set_cons_succ, i64_w, i32_w]
      rfl
    refine pure_ (i := 11) (N := some 20) (v := undef) (a' := ?_) #[true, true, true, true, true, true, true, true, true, true, true, true, false, false, false, false, false] rfl rfl (by kernel_rfl) (fun _ _ _ h => h) (Or.inr ⟨by rfl, rfl⟩) ?_ ?_
    rotate_left
    · simp only [Act.put, List.setIfInBounds_toArray, List.set_cons_zero, List.set_cons_succ, i64_w, i32_w]
      rfl
    refine pure_ (i := 12) (N := some 21) (v := undef) (a' := ?_) #[true, true, true, true, true, true, true, true, true, true, true, true, true, false, false, false, false] rfl rfl (by kernel_rfl) (fun _ _ _ h => h) (Or.inr ⟨by rfl, rfl⟩) ?_ ?_
    rotate_left
    · simp only [Act.put, List.setIfInBounds_toArray, List.set_cons_zero, List.set_cons_succ, i64_w, i32_w]
      rfl
    refine pure_ (i := 13) (N := some 22) (v := undef) (a' := ?_) #[true, true, true, true, true, true, true, true, true, true, true, true, true, true, false, false, false] rfl rfl (by kernel_rfl) (fun _ _ _ h => h) (Or.inr ⟨by rfl, rfl⟩) ?_ ?_
    rotate_left
    · simp only [Act.put, List.setIfInBounds_toArray, List.set_cons_zero, List.set_cons_succ, i64_w, i32_w]
      rfl
    refine pure_ (i := 14) (N := some 23) (v := undef) (a' := ?_) #[true, true, true, true, true, true, true, true, true, true, true, true, true, true, true, false, false] rfl rfl (by kernel_rfl) (fun _ _ _ h => h) (Or.inr ⟨by rfl, rfl⟩) ?_ ?_
    rotate_left
    · simp only [Act.put, List.setIfInBounds_toArray, List.set_cons_zero, List.set_cons_succ, i64_w, i32_w]
      rfl
    refine pure_ (i := 15) (N := some 24) (v := undef) (a' := ?_) #[true, true, true, true, true, true, true, true, true, true, true, true, true, true, true, true, false] rfl rfl (by kernel_rfl) (fun _ _ _ h => h) (Or.inr ⟨by rfl, rfl⟩) ?_ ?_
    rotate_left
    · simp only [Act.put, List.setIfInBounds_toArray, List.set_cons_zero, List.set_cons_succ, i64_w, i32_w]
      rfl
    refine pure_ (i := 16) (N := some 25) (v := ?_) (a' := ?_) #[true, true, true, true, true, true, true, true, true, true, true, true, true, true, true, true, true] rfl rfl (by kernel_rfl) (fun _ _ _ h => h) (Or.inl ⟨by rfl, ?_⟩) ?_ ?_
    rotate_left
    · intro w'
      go_simp
      with_reducible rfl
    rotate_left
    · simp only [Act.put, List.setIfInBounds_toArray, List.set_cons_zero, List.set_cons_succ, i64_w, i32_w]
      rfl
    refine done_ (by kernel_rfl) ?_
    clear hHeld
    go_wp2_with fail
    go_ret
    exact ⟨by rw [release_no HF.out]; rfl, ⟨A, c, by rw [release_no HF.out]; exact N1.out.below (below_drew (Below.refl _ _))⟩, Mod.of_below (below_drew B1.out)⟩
  · have HF := Lib.hid hf
    have HI := Lib.hid hi
    obtain ⟨ad, x, X, xd, hA, hx, hxm, hxt, x0, x1, hxl, hCx⟩ := pl_at HC1.out (Below.refl _ _) i hi
    subst hA
    have HX := Lib.hid hx
    have HCX := Aside0.mk hCx
    have p0 : (0 : Int) ≤ i := by omega
    have p1 : (i : Int) < t.l.length := by omega
    have p2 : decide ((i : Int) < 0) = false := decide_eq_false (by omega)
    clear hf hr hx hxm hxt hCx hxl hi
    go_wp2_with fail
    refine start_ (n := 17) (S := fun w' => w'.cell? ⟨p, 0, none⟩ = some (.slice (some ad) t.l.length c) ∧ w'.cell? (ad.add (i * 2)) = some (.int .i64 x.pos) ∧ w'.cell? { block := (ad.add (i * 2)).block, off := (ad.add (i * 2)).off + 1 } = some (.slice X x.l.length xd)) (ds := []) #[false, false, false, false, false, false, false, false, false, false, false, false, false, false, false, false, false] (by kernel_rfl) rfl rfl ⟨f1, x0, x1⟩ (fun hHeld => ?_)
    refine pure_ (i := 0) (N := some 9) (v := ?_) (a' := ?_) #[true, false, false, false, false, false, false, false, false, false, false, false, false, false, false, false, false] rfl rfl (by kernel_rfl) (fun _ _ _ h => h) (Or.inl ⟨by rfl, ?_⟩) ?_ ?_
    rotate_left
    · intro w'
      go_simp
      with_reducible rfl
    rotate_left
    · simp only [Act.put, List.setIfInBounds_toArray, List.set_cons_zero, List.set_cons_succ, i64_w, i32_w]
      rfl
    refine pure_ (i := 1) (N := some 10) (v := ?_) (a' := ?_) #[true, true, false, false, false, false, false, false, false, false, false, false, false, false, false, false, false] rfl rfl (by kernel_rfl) (fun _ _ _ h => h) (Or.inl ⟨by rfl, ?_⟩) ?_ ?_
    rotate_left
    · intro w'
      go_simp
      with_reducible rfl
    rotate_left
    · simp only [Act.put, List.setIfInBounds_toArray, List.set_cons_zero, List.set_cons_succ, i64_w, i32_w]
      rfl
    refine pure_ (i := 2) (N := some 11) (v := ?_) (a' := ?_) #[true, true, true, false, false, false, false, false, false, false, false, false, false, false, false, false, false] rfl rfl (by kernel_rfl) (fun _ _ _ h => h) (Or.inl ⟨by rfl, ?_⟩) ?_ ?_
    rotate_left
    · intro w'
      go_simp
      with_reducible rfl
    rotate_left
    · simp only [Act.put, List.setIfInBounds_toArray, List.set_cons_zero, List.set_cons_succ, i64_w, i32_w]
      rfl
    refine pure_ (i := 3) (N := some 12) (v := ?_) (a' := ?_) #[true, true, true, true, false, false, false, false, false, false, false, false, false, false, false, false, false] rfl rfl (by kernel_rfl) (fun _ _ _ h => h) (Or.inl ⟨by rfl, ?_⟩) ?_ ?_
    rotate_left
    · intro w'
      go_simp
      with_reducible rfl
    rotate_left
    · simp only [Act.put, List.setIfInBounds_toArray, List.set_cons_zero, List.set_cons_succ, i64_w, i32_w]
      rfl
    refine pure_ (i := 4) (N := some 13) (v := ?_) (a' := ?_) #[true, true, true, true, true, false, false, false, false, false, false, false, false, false, false, false, false] rfl rfl (by kernel_rfl) (fun _ _ _ h => h) (Or.inl ⟨by rfl, ?_⟩) ?_ ?_
    rotate_left
    · intro w'
      go_simp
      with_reducible rfl
    rotate_left
    · simp only [Act.put, List.setIfInBounds_toArray, List.set_cons_zero, List.set_cons_succ, i64_w, i32_w]
      rfl
    refine pure_ (i := 5) (N := some 14) (v := ?_) (a' := ?_) #[true, true, true, true, true, true, false, false, false, false, false, false, false, false, false, false, false] rfl rfl (by kernel_rfl) (fun _ _ _ h => h) (Or.inl ⟨by rfl, ?_⟩) ?_ ?_
    rotate_left
    · intro w'
      go_simp
      with_reducible rfl
    rotate_left
    · simp only [Act.put, List.setIfInBounds_toArray, List.set_cons_zero, List.set_cons_succ, i64_w, i32_w]
      rfl
    refine pure_ (i := 7) (N := some 16) (v := ?_) (a' := ?_) #[true, true, true, true, true, true, false, true, false, false, false, false, false, false, false, false, false] rfl rfl (by kernel_rfl) (fun _ _ _ h => h) (Or.inl ⟨by rfl, ?_⟩) ?_ ?_
    rotate_left
    · intro w'
      go_simp
      with_reducible rfl
    rotate_left
    · simp only [Act.put, List.setIfInBounds_toArray, List.set_cons_zero, List.set_cons_succ, i64_w, i32_w]
      rfl
    refine pure_ (i := 8) (N := some 17) (v := ?_) (a' := ?_) #[true, true, true, true, true, true, false, true, true, false, false, false, false, false, false, false, false] rfl rfl (by kernel_rfl) (fun _ _ _ h => h) (Or.inl ⟨by rfl, ?_⟩) ?_ ?_
    rotate_left
    · intro w'
      go_simp
      with_reducible rfl
    rotate_left
    · simp only [Act.put, List.setIfInBounds_toArray, List.set_cons_zero, List.set_cons_succ, i64_w, i32_w]
      rfl
    refine pure_ (i := 9) (N := some 18) (v := ?_) (a' := ?_) #[true, true, true, true, true, true, false, true, true, true, false, false, false, false, false, false, false] rfl rfl (by kernel_rfl) (fun _ _ _ h => h) (Or.inl ⟨by rfl, ?_⟩) ?_ ?_
    rotate_left
    · intro w'
      go_simp
      with_reducible rfl
    rotate_left
    · simp only [Act.put, List.setIfInBounds_toArray, List.set_cons_zero, List.set_cons_succ, i64_w, i32_w]
      rfl
    refine pure_ (i := 11) (N := some 20) (v := ?_) (a' := ?_) #[true, true, true, true, true, true, false, true, true, true, false, true, false, false, false, false, false] rfl rfl (by kernel_rfl) (fun _ _ _ h => h) (Or.inl ⟨by rfl, ?_⟩) ?_ ?_
    rotate_left
    · intro w'
      go_simp
      with_reducible rfl
    rotate_left
    · simp only [Act.put, List.setIfInBounds_toArray, List.set_cons_zero, List.set_cons_succ, i64_w, i32_w]
      rfl
    refine take_ (i := 6) (N := some 15) (v := ?_) (a' := ?_) #[true, true, true, true, true, true, true, true, true, true, false, true, false, false, false, false, false] rfl rfl (by kernel_rfl) (fun _ _ _ h => h) (Or.inl ⟨by rfl, ?_⟩) hHeld ?_ ?_
    rotate_left
    · rintro w' ⟨s0, s1, s2⟩
      go_simp
      with_reducible rfl
    rotate_left
    · simp only [Act.put, List.setIfInBounds_toArray, List.set_cons_zero, List.set_cons_succ, i64_w, i32_w]
      rfl
    refine take_ (i := 10) (N := some 19) (v := ?_) (a' := ?_) #[true, true, true, true, true, true, true, true, true, true, true, true, false, false, false, false, false] rfl rfl (by kernel_rfl) (fun _ _ _ h => h) (Or.inl ⟨by rfl, ?_⟩) hHeld ?_ ?_
    rotate_left
    · rintro w' ⟨s0, s1, s2⟩
      go_simp
      with_reducible rfl
    rotate_left
    · simp only [Act.put, List.setIfInBounds_toArray, List.set_cons_zero, List.set_cons_succ, i64_w, i32_w]
      rfl
    refine pure_ (i := 12) (N := some 21) (v := ?_) (a' := ?_) #[true, true, true, true, true, true, true, true, true, true, true, true, true, false, false, false, false] rfl rfl (by kernel_rfl) (fun _ _ _ h => h) (Or.inl ⟨by rfl, ?_⟩) ?_ ?_
    rotate_left
    · intro w'
      go_simp
      with_reducible rfl
    rotate_left
    · simp only [Act.put, List.setIfInBounds_toArray, List.set_cons_zero, List.set_cons_succ, i64_w, i32_w]
      rfl
    refine take_ (i := 13) (N := some 22) (v := ?_) (a' := ?_) #[true, true, true, true, true, true, true, true, true, true, true, true, true, true, false, false, false] rfl rfl (by kernel_rfl) (fun _ _ _ h => h) (Or.inl ⟨by rfl, ?_⟩) hHeld ?_ ?_
    rotate_left
    · rintro w' ⟨s0, s1, s2⟩
      go_simp
      with_reducible rfl
    rotate_left
    · simp only [Act.put, List.setIfInBounds_toArray, List.set_cons_zero, List.set_cons_succ, i64_w, i32_w]
      rfl
    refine one_ (i := 14) (N := some 23) #[true, true, true, true, true, true, true, true, true, true, true, true, true, true, true, false, false] rfl rfl (by kernel_rfl) (by decide) (fun K hK => ?_)
    refine goes_ Try.func35 (by kernel_rfl) rfl #[.agg #[.int .i64 x.pos, .slice X x.l.length xd]] (by rfl) rfl rfl (by simp only [List.map_toArray, List.map_cons, List.map_nil]; rfl) ?_
    with_reducible refine (ahead_any x X xd w1.drew).mono ?_
    rintro e w5 ⟨g, rfl, hg5, hb5⟩
    refine ⟨_, rfl, ?_⟩
    have HG5 := Aside0.mk hg5
    have B5 := Aside0.mk (below_then (below_drew (Below.refl w1.heap.size w1)) (Nat.le_refl _) hb5)
    clear hg5 hb5
    refine hK.out _ _ ⟨pw_cell_below B5.out f1, pw_cell_below B5.out x0, pw_cell_below B5.out x1⟩ (fun hHeld => ?_)
    clear hK K
    refine norm_ (a' := ?_) ?_ ?_
    rotate_left
    · show Act.put _ (some 23) _ = _
      simp only [Act.put, List.setIfInBounds_toArray, List.set_cons_zero, List.set_cons_succ, i64_w, i32_w]
      rfl
    refine one_ (i := 15) (N := some 24) #[true, true, true, true, true, true, true, true, true, true, true, true, true, true, true, true, false] rfl rfl (by kernel_rfl) (by decide) (fun K hK => ?_)
    have HCNT := Aside0.mk (contPl 48 enter48 #[.pointer (some ⟨g, 0, none⟩)] (fun q => Ahead x q) (some ad) t.l.length c t.l w5 (Kd.C_below HC1.out B5.out) (fun q _ D d2 w2 hb2 hq => c48_any q x X xd D d2 g w2 (blk_below HG5.out hb2) (Kd.C_below (Kd.C_below HCX.out B5.out) hb2) (Kd.C_below hq hb2)))
    refine goes_ Try.func34 (by kernel_rfl) rfl #[.slice (some ad) t.l.length c, .func (.func 48) #[] #[.pointer (some ⟨g, 0, none⟩)]] (by rfl) rfl rfl (by simp only [List.map_toArray, List.map_cons, List.map_nil]; rfl) ?_
    with_reducible refine (HCNT.out).mono ?_
    rintro e w6 ⟨rfl, hb6⟩
    refine ⟨_, rfl, ?_⟩
    have B6 := Aside0.mk (below_then B5.out B5.out.size hb6)
    clear hb6
    refine hK.out _ _ ⟨pw_cell_below B6.out f1, pw_cell_below B6.out x0, pw_cell_below B6.out x1⟩ (fun hHeld => ?_)
    clear hK K
    refine norm_ (a' := ?_) ?_ ?_
    rotate_left
    · show Act.put _ (some 24) _ = _
      simp only [Act.put, List.setIfInBounds_toArray, List.set_cons_zero, List.set_cons_succ, i64_w, i32_w]
      rfl
    refine pure_ (i := 16) (N := some 25) (v := ?_) (a' := ?_) #[true, true, true, true, true, true, true, true, true, true, true, true, true, true, true, true, true] rfl rfl (by kernel_rfl) (fun _ _ _ h => h) (Or.inl ⟨by rfl, ?_⟩) ?_ ?_
    rotate_left
    · intro w'
      go_simp
      with_reducible rfl
    rotate_left
    · simp only [Act.put, List.setIfInBounds_toArray, List.set_cons_zero, List.set_cons_succ, i64_w, i32_w]
      rfl
    refine done_ (by kernel_rfl) ?_
    have N6 := Aside0.mk (N1.out.below B6.out)
    have W6 := Aside0.mk (below_then B1.out B1.out.size B6.out)
    have f6 := N6.out.f0
    clear hHeld x0 x1 f1
    by_cases hE : ∃ q ∈ t.l, Ahead x q
    · rw [decide_eq_true hE]
      have HE := Lib.hid hE
      clear hE
      go_wp2_with fail
      go_ret
      have hk : ∃ q ∈ t.l, Ahead (t.l.getD i default) q := by rw [HX.out]; exact HE.out
      exact ⟨by rw [release_kept HF.out hk]; rfl, ⟨some ad, c, by rw [release_kept HF.out hk]; exact N6.out⟩, Mod.of_below W6.out⟩
    · rw [decide_eq_false hE]
      have HE := Lib.hid hE
      clear hE
      obtain ⟨g', cap, hv, _, _, _⟩ := Kd.R_form N6.out.row (by omega)
      obtain ⟨rfl, rfl⟩ : ad = ⟨g', 0, none⟩ ∧ c = cap := by injection hv with h1 h2 h3; injection h1 with h1; exact ⟨h1, h3⟩
      have p7 : t.l.length ≤ 9000000000000000 := by omega
      clear hv
      go_wp2_with fail
      refine (delete_any base ok g' t.l.length c i t.l w6 N6.out.row HI.out (Nat.le_trans hb0 W6.out.size) p7).mono ?_
      rintro e w3 ⟨rfl, hR3, hm3⟩
      have hg := N6.out.row.1 g' (by simp [Value.ownBlock])
      have hgp : p ≠ g' := fun he => N6.out.pok (by rw [he]; exact hg)
      have P3 := Aside0.mk (blk_mod N6.out.blk hm3 hgp)
      have R3 := Aside0.mk hR3
      have HM3 := Aside0.mk hm3
      have HG := Lib.hid hg
      have y0 : w3.frozen? ⟨p, 0, none⟩ = false := blk_frozen P3.out 0
      have y1 : w3.cell? ⟨p, 0, none⟩ = some (.slice (some ⟨g', 0, none⟩) t.l.length c) := blk_cell P3.out 0
      have P4 := Aside0.mk (blk_put P3.out 0 (.slice (some ⟨g', 0, none⟩) (t.l.length - 1) c) rfl)
      clear hR3 hm3 hgp hg f6
      go_wp2_with fail
      go_ret
      have hlen : (t.l.eraseIdx i).length = t.l.length - 1 := List.length_eraseIdx_of_lt HI.out
      have hr4 := R_set R3.out p 0 (.slice (some ⟨g', 0, none⟩) (t.l.length - 1) c) N6.out.pok
      have hm4 : Mod w6 (w3.setCell ⟨p, 0, none⟩ (.slice (some ⟨g', 0, none⟩) (t.l.length - 1) c)) (fun q => q = p ∨ ok q) :=
        (HM3.out.mono (fun q h => .inr (by rw [h]; exact HG.out))).trans ((mod_setCell w3 p 0 _).mono (fun _ h => .inl h))
      have hk : ¬ ∃ q ∈ t.l, Ahead (t.l.getD i default) q := by rw [HX.out]; exact HE.out
      refine ⟨by rw [release_ok HF.out hk]; rfl, ⟨some ⟨g', 0, none⟩, c, ?_⟩, (Mod.of_below W6.out).trans hm4⟩
      rw [release_ok HF.out hk]
      refine ⟨?_, ?_, N6.out.pb, N6.out.pok, ?_⟩
      · show _ = some (Obj.cells #[.slice _ (t.l.eraseIdx i).length c, _] 58 (0, 0)); rw [hlen]; exact P4.out
      · show kPl.R 62 _ base ok (.slice _ (t.l.eraseIdx i).length c) (t.l.eraseIdx i); rw [hlen]; exact hr4
      · exact fun x hx => N6.out.bd x (List.mem_of_mem_eraseIdx hx)
set_option maxRecDepth 100000 in
set_option maxHeartbeats 4000000 in
theorem locks_any (t : TS) (A : Option Addr) (c : Nat) (base p : Nat) (ok : Nat → Prop) (pos : Int) (w : World) (hN : TNet w base p ok t A c) :
    Calls Try.prog 42 #[.pointer (some ⟨p, 0, none⟩), .int .i64 pos] w fun e w' => ∃ v, e = .returned (.tuple #[v, .int .i64 (t.locks pos).2]) ∧ kLk.R 23 w' w.heap.size (fun q => w.heap.size ≤ q) v (t.locks pos).1 ∧ Below w.heap.size w w' := by
  have HN := Aside0.mk hN
  clear hN
  go_enter Try.func42, Try.ntmps42
  go_wp2_with fail
  refine (find_any t.l pos A c _ p w HN.out.blk HN.out.C).mono ?_
  rintro e w1 ⟨r, rfl, hr, hb1⟩
  have B1 := Aside0.mk hb1
  have HC1 := Aside0.mk (Kd.C_below HN.out.C hb1)
  have f1 := pw_cell_below hb1 HN.out.f0
  clear hb1
  rcases hr.find with ⟨hf, rfl⟩ | ⟨i, hf, rfl, hi⟩
  · have HF := Lib.hid hf
    clear hf hr
    go_wp2_with fail
    refine bodyPost_ret (results_list (rs := [_, _]) rfl (by simp) (.tmp (.tmp .nil))) rfl ⟨_, by rw [locks_no HF.out]; rfl, by rw [locks_no HF.out]; exact Kd.R_nil _ _ _ _ _, B1.out⟩
  · have HF := Lib.hid hf
    obtain ⟨ad, x, X, xd, rfl, hx, hxm, hxt, x0, x1, hxl, hCx⟩ := pl_at HC1.out (Below.refl _ _) i hi
    have HX := Lib.hid hx
    have HCX := Aside0.mk hCx
    have p0 : (0 : Int) ≤ i := by omega
    have p1 : (i : Int) < t.l.length := by omega
    have HBD := Lib.hid (HN.out.bd x hxm)
    clear hf hr hx hxm hxt hCx hxl
    go_wp2_with fail
    refine (clone_any X xd x.l w1 w1 (Below.refl _ _) HCX.out HBD.out).mono ?_
    rintro e w5 ⟨v, news, rfl, ho, hr, hb5⟩
    have hR5 := Cloned.row ho hr hb5 (fun _ _ h _ _ _ => kLk_M.2 (kLk_K.1 h))
    have R5 := Aside0.mk hR5
    have B5 := Aside0.mk (below_then B1.out B1.out.size hb5)
    clear ho hr hb5 hR5
    go_wp2_with fail
    refine bodyPost_ret (results_list (rs := [_, _]) rfl (by simp) (.tmp (.tmp .nil))) rfl ⟨_, by rw [locks_yes HF.out]; rfl, by rw [locks_yes HF.out, HX.out]; exact Kd.R_mono (Kd.R_lower (Kd.R_bound R5.out) B1.out.size) (fun q h => Nat.le_trans B1.out.size h.2.1), B5.out⟩
set_option maxRecDepth 100000 in
set_option maxHeartbeats 1000000 in
theorem index_any (A : Option Addr) (n c : Nat) (xs : List Int) (v : Int) (w : World) (hC : (Kd.int .i64).C w A n xs) :
    Calls Try.prog 54 #[.slice A n c, .int .i64 v] w fun e w' => ∃ r : Int, e = .returned (.int .i64 r) ∧ (0 ≤ r ↔ v ∈ xs) ∧ w' = w := by
  have HC := Aside0.mk hC
  have HN := Lib.hid hC.1
  have hn := hC.2.1
  clear hC
  go_enter Try.func54, Try.ntmps54
  go_wp2_with fail
  go_loopg [8] n (fun gn i wr => ∃ k : Nat, i = .int .i64 k ∧ Aside0 (k + gn = n ∧ v ∉ xs.take k) ∧ wr = w)
  case atStart => exact ⟨0, rfl, ⟨by omega, by simp⟩, rfl⟩
  case round =>
    obtain ⟨k, rfl, ⟨hgn, hall⟩, rfl⟩ := hrel
    have HGN := Lib.hid hgn
    have HALL := Lib.hid hall
    clear hgn hall
    by_cases hk : k < n
    · obtain ⟨ad, x, rfl, hx, hxm, hts0, q0⟩ := int_el HC.out (Below.refl _ _) k hk
      have HTS := Lib.hid hts0
      have p0 : (0 : Int) ≤ k := by omega
      have p1 : (k : Int) < n := by omega
      clear hts0 hxm
      by_cases hE : v = x
      · have e1 := int_beq_true hE
        have HE := Lib.hid hE
        have HX := Lib.hid hx
        clear hE hx
        go_wp2_with fail
        go_ret
        exact ⟨(k : Int), rfl, ⟨fun _ => by
          have : x ∈ xs.take (k + 1) := by rw [HTS.out]; simp
          rw [HE.out]; exact List.mem_of_mem_take this, fun _ => by omega⟩, rfl⟩
      · have e1 := int_beq_false hE
        have HE := Lib.hid hE
        clear hE
        go_wp2_with fail
        go_roundg (n - (k + 1))
        case measure => have := HGN.out; omega
        case rel => exact ⟨k + 1, by go_num, ⟨by have := HGN.out; omega, fun hy => by
          rw [HTS.out, List.mem_append, List.mem_singleton] at hy
          rcases hy with h | h
          · exact HALL.out h
          · exact HE.out h⟩, rfl⟩
    · have hxs : xs.take k = xs := List.take_of_length_le (by rw [HN.out]; omega)
      rw [hxs] at HALL
      clear hxs
      go_wp2_with fail
      go_ret
      exact ⟨-1, rfl, ⟨fun h => absurd h (by decide), fun h => absurd h HALL.out⟩, rfl⟩
set_option maxHeartbeats 1000000 in
theorem contains_any (A : Option Addr) (n c : Nat) (xs : List Int) (v : Int) (w : World) (hC : (Kd.int .i64).C w A n xs) :
    Calls Try.prog 53 #[.slice A n c, .int .i64 v] w fun e w' => e = .returned (.bool (decide (v ∈ xs))) ∧ w' = w := by
  have HC := Aside0.mk hC
  clear hC
  go_enter Try.func53, Try.ntmps53
  go_wp2_with fail
  refine (index_any A n c xs v w HC.out).mono ?_
  rintro e w1 ⟨r, rfl, hr, rfl⟩
  have HR := Lib.hid hr
  clear hr
  go_wp2_with fail
  go_ret
  exact ⟨ret_bool (decide_eq_decide.2 HR.out), rfl⟩
set_option maxHeartbeats 1000000 in
theorem granted_any (t : TS) (A : Option Addr) (c : Nat) (base p : Nat) (ok : Nat → Prop) (pos : Int) (w : World) (hN : TNet w base p ok t A c) (hs : t.l.length * 8 ≤ 140737488355320) :
    Calls Try.prog 44 #[.pointer (some ⟨p, 0, none⟩), .int .i64 pos] w fun e w' => e = .returned (.bool (decide (pos ∈ t.ready))) ∧ Below w.heap.size w w' := by
  have HN := Aside0.mk hN
  clear hN
  go_enter Try.func44, Try.ntmps44
  go_wp2_with fail
  refine (ready_any t A c base p ok w HN.out hs).mono ?_
  rintro e w1 ⟨v, rfl, hv, hb⟩
  obtain ⟨V, vc, rfl⟩ := Kd.R_slice hv
  have HV := Aside0.mk hv
  have HB := Aside0.mk hb
  clear hv hb
  go_wp2_with fail
  refine (contains_any V _ vc t.ready pos w1 (Kd.R_reads' HV.out).2.2).mono ?_
  rintro e w2 ⟨rfl, rfl⟩
  go_wp2_with fail
  go_ret
  exact ⟨rfl, HB.out⟩
end Go.Proofs.Ytajblhainchplaa
