/- Layer 19: the walks of the reference's MeetAny, New, Open, at. -/
import Derived.Test.YtajblhainchplaaJ10
set_option linter.unusedVariables false
set_option linter.unusedSimpArgs false
namespace Go.Proofs.Ytajblhainchplaa
open Go.RowKit Go.Proofs.YtajblhainchplaaW.PrintWords Go.Proofs.YtajblhainchplaaW.PrintLast
set_option maxRecDepth 100000 in
set_option maxHeartbeats 4000000 in
theorem rmeetAny_any (A : Option Addr) (c : Nat) (xs : List Lk) (B : Option Addr) (d : Nat) (ys : List Lk) (w : World) (hA : kLk.C w A xs.length xs) (hB : kLk.C w B ys.length ys) :
    Calls Try.prog 17 #[.slice A xs.length c, .slice B ys.length d] w fun e w' => e = .returned (.bool (decide (MeetAny xs ys))) ∧ Below w.heap.size w w' := by
  have HA := Aside0.mk hA
  have HB := Aside0.mk hB
  have hn := hA.2.1
  have hn2 := hB.2.1
  clear hA hB
  go_enter Try.func17, Try.ntmps17
  go_wp2_with fail
  go_loopg [5] xs.length (fun gn i wr => ∃ k : Nat, i = .int .i64 k ∧ Aside0 (k + gn = xs.length ∧ ∀ x ∈ xs.take k, ∀ y ∈ ys, ¬ Meet x y) ∧ Aside0 (Below w.heap.size w wr))
  case atStart => exact ⟨0, rfl, ⟨by omega, by simp⟩, ⟨Below.refl _ _⟩⟩
  case round =>
    obtain ⟨k, rfl, ⟨hgn, hall⟩, hW⟩ := hrel
    have HGN := Lib.hid hgn
    have HALL := Lib.hid hall
    clear hgn hall
    by_cases hk : k < xs.length
    · obtain ⟨ad, x, rfl, hx, hmem0, hts0, _, _, _, _⟩ := lk_at HA.out hW.out k hk
      have HTS := Lib.hid hts0
      have HMEM := Lib.hid hmem0
      have p0 : (0 : Int) ≤ k := by omega
      have p1 : (k : Int) < xs.length := by omega
      clear hts0 hmem0
      go_wp2_with fail
      go_loopg [6] ys.length (fun gn i wq => ∃ m : Nat, i = .int .i64 m ∧ Aside0 (m + gn = ys.length ∧ ∀ y ∈ ys.take m, ¬ Meet x y) ∧ Aside0 (Below w.heap.size w wq))
      case atStart => exact ⟨0, rfl, ⟨by omega, by simp⟩, hW⟩
      case round =>
        obtain ⟨m, rfl, ⟨hgn2, hall2⟩, hV⟩ := hrel
        have HGN2 := Lib.hid hgn2
        have HALL2 := Lib.hid hall2
        clear hgn2 hall2
        by_cases hm : m < ys.length
        · obtain ⟨bd, y, rfl, hy, hmem1, hts1, r0, r1, r2, r3⟩ := lk_at HB.out hV.out m hm
          obtain ⟨ad', x', had, hx', _, _, q0, q1, q2, q3⟩ := lk_at HA.out hV.out k hk
          obtain rfl : ad = ad' := Option.some.inj had
          obtain rfl : x = x' := by rw [← hx, ← hx']
          have HTS1 := Lib.hid hts1
          have HMEM1 := Lib.hid hmem1
          have HV := hV
          have p2 : (0 : Int) ≤ m := by omega
          have p3 : (m : Int) < ys.length := by omega
          clear hts1 hmem1 hy hx' had hW hV
          go_wp2_with fail
          refine start_ (n := 10) (S := fun w' => w'.cell? (ad.add (k * 4)) = some (.int .i64 x.table) ∧ w'.cell? { block := (ad.add (k * 4)).block, off := (ad.add (k * 4)).off + 1 } = some (.string x.lo) ∧ w'.cell? { block := (ad.add (k * 4)).block, off := (ad.add (k * 4)).off + 2 } = some (.string x.hi) ∧ w'.cell? { block := (ad.add (k * 4)).block, off := (ad.add (k * 4)).off + 3 } = some (.bool x.write) ∧ w'.cell? (bd.add (m * 4)) = some (.int .i64 y.table) ∧ w'.cell? { block := (bd.add (m * 4)).block, off := (bd.add (m * 4)).off + 1 } = some (.string y.lo) ∧ w'.cell? { block := (bd.add (m * 4)).block, off := (bd.add (m * 4)).off + 2 } = some (.string y.hi) ∧ w'.cell? { block := (bd.add (m * 4)).block, off := (bd.add (m * 4)).off + 3 } = some (.bool y.write)) (ds := []) #[false, false, false, false, false, false, false, false, false, false] (by kernel_rfl) rfl rfl ⟨q0, q1, q2, q3, r0, r1, r2, r3⟩ (fun hHeld => ?_)
          refine pure_ (i := 0) (N := some 20) (v := ?_) (a' := ?_) #[true, false, false, false, false, false, false, false, false, false] rfl rfl (by kernel_rfl) (fun _ _ _ h => h) (Or.inl ⟨by rfl, ?_⟩) ?_ ?_
          rotate_left
          · intro w'
            go_simp
            with_reducible rfl
          rotate_left
          · simp only [Act.put, List.setIfInBounds_toArray, List.set_cons_zero, List.set_cons_succ, i64_w, i32_w]
            rfl
          refine pure_ (i := 1) (N := some 21) (v := ?_) (a' := ?_) #[true, true, false, false, false, false, false, false, false, false] rfl rfl (by kernel_rfl) (fun _ _ _ h => h) (Or.inl ⟨by rfl, ?_⟩) ?_ ?_
          rotate_left
          · intro w'
            go_simp
            with_reducible rfl
          rotate_left
          · simp only [Act.put, List.setIfInBounds_toArray, List.set_cons_zero, List.set_cons_succ, i64_w, i32_w]
            rfl
          refine pure_ (i := 2) (N := some 22) (v := ?_) (a' := ?_) #[true, true, true, false, false, false, false, false, false, false] rfl rfl (by kernel_rfl) (fun _ _ _ h => h) (Or.inl ⟨by rfl, ?_⟩) ?_ ?_
          rotate_left
          · intro w'
            go_simp
            with_reducible rfl
          rotate_left
          · simp only [Act.put, List.setIfInBounds_toArray, List.set_cons_zero, List.set_cons_succ, i64_w, i32_w]
            rfl
          refine pure_ (i := 4) (N := some 24) (v := ?_) (a' := ?_) #[true, true, true, false, true, false, false, false, false, false] rfl rfl (by kernel_rfl) (fun _ _ _ h => h) (Or.inl ⟨by rfl, ?_⟩) ?_ ?_
          rotate_left
          · intro w'
            go_simp
            with_reducible rfl
          rotate_left
          · simp only [Act.put, List.setIfInBounds_toArray, List.set_cons_zero, List.set_cons_succ, i64_w, i32_w]
            rfl
          refine pure_ (i := 5) (N := some 25) (v := ?_) (a' := ?_) #[true, true, true, false, true, true, false, false, false, false] rfl rfl (by kernel_rfl) (fun _ _ _ h => h) (Or.inl ⟨by rfl, ?_⟩) ?_ ?_
          rotate_left
          · intro w'
            go_simp
            with_reducible rfl
          rotate_left
          · simp only [Act.put, List.setIfInBounds_toArray, List.set_cons_zero, List.set_cons_succ, i64_w, i32_w]
            rfl
          refine pure_ (i := 6) (N := some 26) (v := ?_) (a' := ?_) #[true, true, true, false, true, true, true, false, false, false] rfl rfl (by kernel_rfl) (fun _ _ _ h => h) (Or.inl ⟨by rfl, ?_⟩) ?_ ?_
          rotate_left
          · intro w'
            go_simp
            with_reducible rfl
          rotate_left
          · simp only [Act.put, List.setIfInBounds_toArray, List.set_cons_zero, List.set_cons_succ, i64_w, i32_w]
            rfl
          refine take_ (i := 3) (N := some 23) (v := ?_) (a' := ?_) #[true, true, true, true, true, true, true, false, false, false] rfl rfl (by kernel_rfl) (fun _ _ _ h => h) (Or.inl ⟨by rfl, ?_⟩) hHeld ?_ ?_
          rotate_left
          · rintro w' ⟨s0, s1, s2, s3, s4, s5, s6, s7⟩
            go_simp
            with_reducible rfl
          rotate_left
          · simp only [Act.put, List.setIfInBounds_toArray, List.set_cons_zero, List.set_cons_succ, i64_w, i32_w]
            rfl
          refine take_ (i := 7) (N := some 27) (v := ?_) (a' := ?_) #[true, true, true, true, true, true, true, true, false, false] rfl rfl (by kernel_rfl) (fun _ _ _ h => h) (Or.inl ⟨by rfl, ?_⟩) hHeld ?_ ?_
          rotate_left
          · rintro w' ⟨s0, s1, s2, s3, s4, s5, s6, s7⟩
            go_simp
            with_reducible rfl
          rotate_left
          · simp only [Act.put, List.setIfInBounds_toArray, List.set_cons_zero, List.set_cons_succ, i64_w, i32_w]
            rfl
          refine one_ (i := 8) (N := some 28) #[true, true, true, true, true, true, true, true, true, false] rfl rfl (by kernel_rfl) (by decide) (fun K hK => ?_)
          refine goes_ Try.func30 (by kernel_rfl) rfl #[.agg #[.int .i64 x.table, .string x.lo, .string x.hi, .bool x.write], .agg #[.int .i64 y.table, .string y.lo, .string y.hi, .bool y.write]] (by rfl) rfl rfl (by simp only [List.map_toArray, List.map_cons, List.map_nil]; rfl) ?_
          with_reducible refine (meet_any x y wr.drew).mono ?_
          rintro e w5 ⟨rfl, hb5⟩
          refine ⟨_, rfl, ?_⟩
          have B5 := Aside0.mk (below_then (below_drew HV.out) HV.out.size hb5)
          have B5q := Aside0.mk (below_then (below_drew (Below.refl wr.heap.size wr)) (Nat.le_refl _) hb5)
          clear hb5
          refine hK.out _ _ ⟨pw_cell_below B5q.out q0, pw_cell_below B5q.out q1, pw_cell_below B5q.out q2, pw_cell_below B5q.out q3, pw_cell_below B5q.out r0, pw_cell_below B5q.out r1, pw_cell_below B5q.out r2, pw_cell_below B5q.out r3⟩ (fun hHeld => ?_)
          clear hK K
          refine norm_ (a' := ?_) ?_ ?_
          rotate_left
          · show Act.put _ (some 28) _ = _
            simp only [Act.put, List.setIfInBounds_toArray, List.set_cons_zero, List.set_cons_succ, i64_w, i32_w]
            rfl
          refine pure_ (i := 9) (N := some 7) (v := ?_) (a' := ?_) #[true, true, true, true, true, true, true, true, true, true] rfl rfl (by kernel_rfl) (fun _ _ _ h => h) (Or.inl ⟨by rfl, ?_⟩) ?_ ?_
          rotate_left
          · intro w'
            go_simp
            with_reducible rfl
          rotate_left
          · simp only [Act.put, List.setIfInBounds_toArray, List.set_cons_zero, List.set_cons_succ, i64_w, i32_w]
            rfl
          refine done_ (by kernel_rfl) ?_
          clear hHeld q0 q1 q2 q3 r0 r1 r2 r3
          by_cases hE : Meet x y
          · rw [decide_eq_true hE]
            have HE := Lib.hid hE
            clear hE
            go_wp2_with fail
            go_ret
            exact ⟨ret_bool (decide_eq_true ⟨x, HMEM.out, y, HMEM1.out, HE.out⟩).symm, B5.out⟩
          · rw [decide_eq_false hE]
            have HE := Lib.hid hE
            clear hE
            go_wp2_with fail
            go_roundg (ys.length - (m + 1))
            case measure => have := HGN2.out; omega
            case rel => exact ⟨m + 1, by go_num, ⟨by have := HGN2.out; omega, fun z hz => by
              rw [HTS1.out, List.mem_append, List.mem_singleton] at hz
              rcases hz with h | h
              · exact HALL2.out z h
              · rw [h]; exact HE.out⟩, B5⟩
        · have hys : ys.take m = ys := List.take_of_length_le (by omega)
          rw [hys] at HALL2
          clear hys
          have p3 : ¬ (m : Int) < ys.length := by omega
          go_wp2_with fail
          go_roundg (xs.length - (k + 1))
          case measure => have := HGN.out; omega
          case rel => exact ⟨k + 1, by go_num, ⟨by have := HGN.out; omega, fun z hz => by
            rw [HTS.out, List.mem_append, List.mem_singleton] at hz
            rcases hz with h | h
            · exact HALL.out z h
            · rw [h]; exact HALL2.out⟩, hV⟩
    · have hxs : xs.take k = xs := List.take_of_length_le (by omega)
      rw [hxs] at HALL
      clear hxs
      have p1 : ¬ (k : Int) < xs.length := by omega
      go_wp2_with fail
      go_ret
      exact ⟨ret_bool (decide_eq_false (fun ⟨x, hx, y, hy, h⟩ => HALL.out x hx y hy h)).symm, hW.out⟩
/-- The reference's table in memory. -/
structure RNet (w : World) (base p : Nat) (ok : Nat → Prop) (t : TS) (A : Option Addr) (c : Nat) : Prop where
  blk : w.heap[p]? = some (.cells #[.slice A t.l.length c, .int .i64 t.last] 70 (0, 0))
  row : kPl.R 76 w base ok (.slice A t.l.length c) t.l
  pb : p < base
  pok : ¬ ok p
  bd : ∀ q ∈ t.l, q.l.length * 48 ≤ 140737488355328
theorem RNet.mod {w w' : World} {base p : Nat} {ok S : Nat → Prop} {t : TS} {A : Option Addr} {c : Nat} (h : RNet w base p ok t A c) (k : Mod w w' S) (hp : ¬ S p) (hS : ∀ i, ok i → ¬ S i) : RNet w' base p ok t A c :=
  ⟨blk_mod h.blk k hp, Kd.R_step h.row (fun i hi hl => k.block i hl (hS i hi)), h.pb, h.pok, h.bd⟩
theorem RNet.below {w w' : World} {base p : Nat} {ok : Nat → Prop} {t : TS} {A : Option Addr} {c : Nat} (h : RNet w base p ok t A c) (k : Below w.heap.size w w') : RNet w' base p ok t A c :=
  h.mod (S := fun _ => False) (Mod.of_below k) (fun h => h) (fun _ _ h => h)
theorem RNet.wide {w : World} {base p : Nat} {ok ok' : Nat → Prop} {t : TS} {A : Option Addr} {c : Nat} (h : RNet w base p ok t A c) (hok : ∀ q, ok q → ok' q) (hp : ¬ ok' p) : RNet w base p ok' t A c :=
  ⟨h.blk, Kd.R_mono h.row hok, h.pb, hp, h.bd⟩
theorem RNet.bound {w : World} {base p : Nat} {ok : Nat → Prop} {t : TS} {A : Option Addr} {c : Nat} (h : RNet w base p ok t A c) : RNet w base p (fun q => ok q ∧ base ≤ q ∧ q < w.heap.size) t A c :=
  ⟨h.blk, Kd.R_mono (Kd.R_bound h.row) (fun q hq => ⟨hq.1, hq.2.1, hq.2.2.1⟩), h.pb, fun hp => h.pok hp.1, h.bd⟩
theorem RNet.f0 {w : World} {base p : Nat} {ok : Nat → Prop} {t : TS} {A : Option Addr} {c : Nat} (h : RNet w base p ok t A c) : w.cell? ⟨p, 0, none⟩ = some (.slice A t.l.length c) := blk_cell h.blk 0
theorem RNet.C {w : World} {base p : Nat} {ok : Nat → Prop} {t : TS} {A : Option Addr} {c : Nat} (h : RNet w base p ok t A c) : kPl.C w A t.l.length t.l := (Kd.R_reads' h.row).2.2
set_option maxHeartbeats 400000 in
theorem rnew_any (w : World) : Calls Try.prog 25 #[] w fun e w' => e = .returned (.pointer (some ⟨w.heap.size, 0, none⟩)) ∧ w'.heap[w.heap.size]? = some (.cells #[.slice none 0 0, .int .i64 (-1)] 70 (0, 0)) ∧ w'.heap.size = w.heap.size + 1 ∧ Below w.heap.size w w' := by
  go_enter Try.func25, Try.ntmps25
  go_wp2_with fail
  go_ret
  exact ⟨rfl, blk_alloc _ _, by simp, below_alloc (Below.refl _ _) _⟩
theorem RNet.start {w : World} {base p : Nat} {ok : Nat → Prop} (h : w.heap[p]? = some (.cells #[.slice none 0 0, .int .i64 (-1)] 70 (0, 0))) (hb : p < base) (hok : ¬ ok p) : RNet w base p ok t0 none 0 :=
  ⟨h, Kd.R_nil _ _ _ _ _, hb, hok, by simp [t0]⟩
set_option maxRecDepth 100000 in
set_option maxHeartbeats 4000000 in
theorem open_any (t : TS) (A : Option Addr) (c : Nat) (base p : Nat) (ok : Nat → Prop) (w : World) (hN : RNet w base p ok t A c) (hs : t.l.length * 8 ≤ 140737488355320) :
    Calls Try.prog 27 #[.pointer (some ⟨p, 0, none⟩)] w fun e w' => ∃ v, e = .returned v ∧ (Kd.int .i64).R 3 w' w.heap.size (fun q => w.heap.size ≤ q) v (t.l.map (·.pos)) ∧ Below w.heap.size w w' := by
  have f0 := hN.f0
  have HC := Aside0.mk hN.C
  have HL := Lib.hid (show (t.l.map (·.pos)).length = t.l.length from List.length_map _)
  clear hN
  go_enter Try.func27, Try.ntmps27
  go_wp2_with fail
  go_loopg [3, 4] t.l.length (fun gn v i wr => ∃ k : Nat, i = .int .i64 k ∧ Aside0 (k + gn = t.l.length) ∧ Aside0 (Below w.heap.size w wr) ∧ Aside0 ((Kd.int .i64).R 3 wr w.heap.size (fun q => w.heap.size ≤ q) v ((t.l.map (·.pos)).take k)))
  case atStart => exact ⟨0, rfl, ⟨by omega⟩, ⟨Below.refl _ _⟩, ⟨Kd.R_nil _ _ _ _ _⟩⟩
  case round =>
    obtain ⟨k, rfl, ⟨hgn⟩, hB, hR⟩ := hrel
    have HGN := Lib.hid hgn
    have f1 := pw_cell_below hB.out f0
    clear hgn
    by_cases hk : k < t.l.length
    · obtain ⟨ad, q, B, d, rfl, hq, hqm, hqt, q0, q1, hl, hCb⟩ := pl_at HC.out hB.out k hk
      have HTS := Lib.hid (take_map (·.pos) t.l k q hqt)
      obtain ⟨L, hL⟩ : ∃ L, L = (t.l.map (·.pos)).take k := ⟨_, rfl⟩
      rw [← hL] at hR
      have HLE := Lib.hid hL
      have hLl : L.length ≤ k := by rw [hL, List.length_take]; omega
      have HS := Lib.hid hB.out.size
      have p0 : (0 : Int) ≤ k := by omega
      have p1 : (k : Int) < t.l.length := by omega
      clear hq hqm hqt hL hl hCb
      go_wp2_with (at_builtin; go_loud (refine Kd.R_append (Kd.int .i64) (w0 := wr) w.heap.size rfl (.tmp 14) (.tmp 23) 37 3 _ 8 rfl Try.underlying37 info3 rfl (by decide) (by omega) _ L q.pos [.int .i64 q.pos] (fun q => w.heap.size ≤ q) (fun _ => False) rfl rfl ?aP (fun _ hk => hk.elim) ?aF ?aO ?aB ?aS ?aL ?_); (case aP => exact rfl); (case aF => exact fun i hi => Nat.le_trans hB.out.size hi); (case aO => exact hR.out); (case aB => exact Below.refl _ _); (case aS => exact hB.out.size); (case aL => omega); intro v7 w7 ho7 hb7 hg7 hat7; have HO7 := Aside0.mk ho7; have HB7 := Aside0.mk (hB.out.trans hb7); clear ho7 hb7 hg7 hat7)
      go_roundg (t.l.length - (k + 1))
      case measure => have := HGN.out; omega
      case rel => exact ⟨k + 1, by go_num, ⟨by have := HGN.out; omega⟩, HB7, ⟨by have h1 := HO7.out; rw [HLE.out, ← HTS.out] at h1; exact h1⟩⟩
    · have p1 : ¬ (k : Int) < t.l.length := by omega
      go_wp2_with fail
      go_ret
      rw [List.take_of_length_le (by rw [HL.out]; omega)] at hR
      exact ⟨_, rfl, hR.out, hB.out⟩
set_option maxRecDepth 100000 in
set_option maxHeartbeats 1000000 in
theorem at_any (t : TS) (A : Option Addr) (c : Nat) (base p : Nat) (ok : Nat → Prop) (pos : Int) (w : World) (hN : RNet w base p ok t A c) :
    Calls Try.prog 52 #[.pointer (some ⟨p, 0, none⟩), .int .i64 pos] w fun e w' => ∃ r : Int, e = .returned (.int .i64 r) ∧ First (fun q => q.pos = pos) t.l r ∧ w' = w := by
  have f0 := hN.f0
  have HC := Aside0.mk hN.C
  have hn := hN.C.2.1
  clear hN
  go_enter Try.func52, Try.ntmps52
  go_wp2_with fail
  go_loopg [5] t.l.length (fun gn i wr => ∃ k : Nat, i = .int .i64 k ∧ Aside0 (k + gn = t.l.length ∧ ∀ y ∈ t.l.take k, ¬ y.pos = pos) ∧ wr = w)
  case atStart => exact ⟨0, rfl, ⟨by omega, by simp⟩, rfl⟩
  case round =>
    obtain ⟨k, rfl, ⟨hgn, hall⟩, rfl⟩ := hrel
    have HGN := Lib.hid hgn
    have HALL := Lib.hid hall
    clear hgn hall
    by_cases hk : k < t.l.length
    · obtain ⟨ad, q, B, d, rfl, hq, hqm, hqt, q0, q1, hl, hCb⟩ := pl_at HC.out (Below.refl _ _) k hk
      have HTS := Lib.hid hqt
      have HX := Lib.hid (getD_get? hk hq)
      have p0 : (0 : Int) ≤ k := by omega
      have p1 : (k : Int) < t.l.length := by omega
      clear hq hqm hqt hl hCb q1
      by_cases hE : q.pos = pos
      · have e1 := int_beq_true hE
        have HE := Lib.hid hE
        clear hE
        go_wp2_with fail
        go_ret
        exact ⟨(k : Int), rfl, .inr ⟨k, rfl, q, HX.out, HE.out, HALL.out⟩, rfl⟩
      · have e1 := int_beq_false hE
        have HE := Lib.hid hE
        clear hE
        go_wp2_with fail
        go_roundg (t.l.length - (k + 1))
        case measure => have := HGN.out; omega
        case rel => exact ⟨k + 1, by go_num, ⟨by have := HGN.out; omega, fun z hz => by
          rw [HTS.out, List.mem_append, List.mem_singleton] at hz
          rcases hz with h | h
          · exact HALL.out z h
          · rw [h]; exact HE.out⟩, rfl⟩
    · have hxs : t.l.take k = t.l := List.take_of_length_le (by omega)
      rw [hxs] at HALL
      clear hxs
      have p1 : ¬ (k : Int) < t.l.length := by omega
      go_wp2_with fail
      go_ret
      exact ⟨-1, rfl, .inl ⟨rfl, HALL.out⟩, rfl⟩
end Go.Proofs.Ytajblhainchplaa
