/- Layer 19: the walk of apart. -/
import Derived.Test.YtajblhainchplaaJ25
set_option linter.unusedVariables false
set_option linter.unusedSimpArgs false
namespace Go.Proofs.Ytajblhainchplaa
open Go.RowKit Go.Proofs.YtajblhainchplaaW.PrintWords Go.Proofs.YtajblhainchplaaW.PrintLast
set_option maxRecDepth 100000 in
set_option maxHeartbeats 4000000 in
theorem apart_any (A : Option Addr) (c : Nat) (os : List Int) (B : Option Addr) (d : Nat) (all : List (List Lk)) (w : World) (hC : (Kd.int .i64).C w A os.length os) (hD : kLL.C w B all.length all)
    (h1 : ∀ o ∈ os, 0 ≤ o ∧ o < all.length) (h2 : ∀ i m, m < i → i < os.length → ¬ MeetAny (all.getD (os.getD i 0).toNat default) (all.getD (os.getD m 0).toNat default)) :
    Calls Try.prog 22 #[.slice A os.length c, .slice B all.length d] w fun e w' => e = .returned (.bool true) ∧ Below w.heap.size w w' := by
  have HC := Aside0.mk hC
  have HD := Aside0.mk hD
  have HH1 := Lib.hid h1
  have HH2 := Lib.hid h2
  have hn := hC.2.1
  clear hC hD h1 h2
  go_enter Try.func22, Try.ntmps22
  go_wp2_with fail
  go_loopg [5] os.length (fun gn i wr => ∃ k : Nat, i = .int .i64 k ∧ Aside0 (k + gn = os.length) ∧ Aside0 (Below w.heap.size w wr))
  case atStart => exact ⟨0, rfl, ⟨by omega⟩, ⟨Below.refl _ _⟩⟩
  case round =>
    obtain ⟨k, rfl, ⟨hgn⟩, hW⟩ := hrel
    have HGN := Lib.hid hgn
    clear hgn
    by_cases hk : k < os.length
    · obtain ⟨ad, v, rfl, hx, hxm, hts0, q0⟩ := int_el HC.out hW.out k hk
      obtain ⟨h0, h1⟩ := HH1.out v hxm
      obtain ⟨j, rfl⟩ := Int.eq_ofNat_of_zero_le h0
      have HV := Lib.hid hx
      have p0 : (0 : Int) ≤ k := by omega
      have p1 : (k : Int) < os.length := by omega
      clear hx hxm hts0
      go_wp2_with fail
      go_loopg [6] k (fun gn i wq => ∃ m : Nat, i = .int .i64 m ∧ Aside0 (m + gn = k) ∧ Aside0 (Below w.heap.size w wq))
      case atStart => exact ⟨0, rfl, ⟨by omega⟩, hW⟩
      case round =>
        obtain ⟨m, rfl, ⟨hgn2⟩, hV⟩ := hrel
        have HGN2 := Lib.hid hgn2
        clear hgn2 q0 hW
        by_cases hm : m < k
        · obtain ⟨ad', v', had, hv', _, _, q0⟩ := int_el HC.out hV.out k hk
          obtain rfl : ad = ad' := Option.some.inj had
          obtain rfl : (j : Int) = v' := by rw [← HV.out, ← hv']
          obtain ⟨ad'', u, had2, hu, hum, _, r0⟩ := int_el HC.out hV.out m (by omega)
          obtain rfl : ad = ad'' := Option.some.inj had2
          obtain ⟨g0, g1⟩ := HH1.out u hum
          obtain ⟨l, rfl⟩ := Int.eq_ofNat_of_zero_le g0
          have hj : j < all.length := by omega
          have hl : l < all.length := by omega
          obtain ⟨bd, x, X, xd, rfl, hx1, _, _, x0, _, hCx⟩ := ll_at HD.out hV.out j hj
          obtain ⟨bd', y, Y, yd, hbd, hy1, _, _, y0, _, hCy⟩ := ll_at HD.out hV.out l hl
          obtain rfl : bd = bd' := Option.some.inj hbd
          have hne := HH2.out k m hm hk
          rw [HV.out, hu, Int.toNat_natCast, Int.toNat_natCast, hx1, hy1] at hne
          have HNE := Lib.hid hne
          have CX := Aside0.mk hCx
          have CY := Aside0.mk hCy
          have HV' := hV
          have p2 : (0 : Int) ≤ m := by omega
          have p3 : (m : Int) < k := by omega
          have p4 : (m : Int) < os.length := by omega
          clear hv' hu hum hCx hCy hx1 hy1 hbd had had2 hne hV
          go_wp2_with fail
          refine start_ (n := 16) (S := fun w' => w'.cell? (ad.add k) = some (.int .i64 j) ∧ w'.cell? (ad.add m) = some (.int .i64 l) ∧ w'.cell? (bd.add j) = some (.slice X x.length xd) ∧ w'.cell? (bd.add l) = some (.slice Y y.length yd)) (ds := []) #[false, false, false, false, false, false, false, false, false, false, false, false, false, false, false, false] (by kernel_rfl) rfl rfl ⟨q0, r0, x0, y0⟩ (fun hHeld => ?_)
          refine pure_ (i := 0) (N := some 33) (v := ?_) (a' := ?_) #[true, false, false, false, false, false, false, false, false, false, false, false, false, false, false, false] rfl rfl (by kernel_rfl) (fun _ _ _ h => h) (Or.inl ⟨by rfl, ?_⟩) ?_ ?_
          rotate_left
          · intro w'
            go_simp
            with_reducible rfl
          rotate_left
          · simp only [Act.put, List.setIfInBounds_toArray, List.set_cons_zero, List.set_cons_succ, i64_w, i32_w]
            rfl
          refine pure_ (i := 1) (N := some 34) (v := ?_) (a' := ?_) #[true, true, false, false, false, false, false, false, false, false, false, false, false, false, false, false] rfl rfl (by kernel_rfl) (fun _ _ _ h => h) (Or.inl ⟨by rfl, ?_⟩) ?_ ?_
          rotate_left
          · intro w'
            go_simp
            with_reducible rfl
          rotate_left
          · simp only [Act.put, List.setIfInBounds_toArray, List.set_cons_zero, List.set_cons_succ, i64_w, i32_w]
            rfl
          refine pure_ (i := 2) (N := some 35) (v := ?_) (a' := ?_) #[true, true, true, false, false, false, false, false, false, false, false, false, false, false, false, false] rfl rfl (by kernel_rfl) (fun _ _ _ h => h) (Or.inl ⟨by rfl, ?_⟩) ?_ ?_
          rotate_left
          · intro w'
            go_simp
            with_reducible rfl
          rotate_left
          · simp only [Act.put, List.setIfInBounds_toArray, List.set_cons_zero, List.set_cons_succ, i64_w, i32_w]
            rfl
          refine pure_ (i := 3) (N := some 36) (v := ?_) (a' := ?_) #[true, true, true, true, false, false, false, false, false, false, false, false, false, false, false, false] rfl rfl (by kernel_rfl) (fun _ _ _ h => h) (Or.inl ⟨by rfl, ?_⟩) ?_ ?_
          rotate_left
          · intro w'
            go_simp
            with_reducible rfl
          rotate_left
          · simp only [Act.put, List.setIfInBounds_toArray, List.set_cons_zero, List.set_cons_succ, i64_w, i32_w]
            rfl
          refine pure_ (i := 7) (N := some 40) (v := ?_) (a' := ?_) #[true, true, true, true, false, false, false, true, false, false, false, false, false, false, false, false] rfl rfl (by kernel_rfl) (fun _ _ _ h => h) (Or.inl ⟨by rfl, ?_⟩) ?_ ?_
          rotate_left
          · intro w'
            go_simp
            with_reducible rfl
          rotate_left
          · simp only [Act.put, List.setIfInBounds_toArray, List.set_cons_zero, List.set_cons_succ, i64_w, i32_w]
            rfl
          refine pure_ (i := 8) (N := some 41) (v := ?_) (a' := ?_) #[true, true, true, true, false, false, false, true, true, false, false, false, false, false, false, false] rfl rfl (by kernel_rfl) (fun _ _ _ h => h) (Or.inl ⟨by rfl, ?_⟩) ?_ ?_
          rotate_left
          · intro w'
            go_simp
            with_reducible rfl
          rotate_left
          · simp only [Act.put, List.setIfInBounds_toArray, List.set_cons_zero, List.set_cons_succ, i64_w, i32_w]
            rfl
          refine pure_ (i := 9) (N := some 42) (v := ?_) (a' := ?_) #[true, true, true, true, false, false, false, true, true, true, false, false, false, false, false, false] rfl rfl (by kernel_rfl) (fun _ _ _ h => h) (Or.inl ⟨by rfl, ?_⟩) ?_ ?_
          rotate_left
          · intro w'
            go_simp
            with_reducible rfl
          rotate_left
          · simp only [Act.put, List.setIfInBounds_toArray, List.set_cons_zero, List.set_cons_succ, i64_w, i32_w]
            rfl
          refine pure_ (i := 10) (N := some 43) (v := ?_) (a' := ?_) #[true, true, true, true, false, false, false, true, true, true, true, false, false, false, false, false] rfl rfl (by kernel_rfl) (fun _ _ _ h => h) (Or.inl ⟨by rfl, ?_⟩) ?_ ?_
          rotate_left
          · intro w'
            go_simp
            with_reducible rfl
          rotate_left
          · simp only [Act.put, List.setIfInBounds_toArray, List.set_cons_zero, List.set_cons_succ, i64_w, i32_w]
            rfl
          refine take_ (i := 4) (N := some 37) (v := ?_) (a' := ?_) #[true, true, true, true, true, false, false, true, true, true, true, false, false, false, false, false] rfl rfl (by kernel_rfl) (fun _ _ _ h => h) (Or.inl ⟨by rfl, ?_⟩) hHeld ?_ ?_
          rotate_left
          · rintro w' ⟨s0, s1, s2, s3⟩
            go_simp
            with_reducible rfl
          rotate_left
          · simp only [Act.put, List.setIfInBounds_toArray, List.set_cons_zero, List.set_cons_succ, i64_w, i32_w]
            rfl
          refine pure_ (i := 5) (N := some 38) (v := ?_) (a' := ?_) #[true, true, true, true, true, true, false, true, true, true, true, false, false, false, false, false] rfl rfl (by kernel_rfl) (fun _ _ _ h => h) (Or.inl ⟨by rfl, ?_⟩) ?_ ?_
          rotate_left
          · intro w'
            go_simp
            with_reducible rfl
          rotate_left
          · simp only [Act.put, List.setIfInBounds_toArray, List.set_cons_zero, List.set_cons_succ, i64_w, i32_w]
            rfl
          refine take_ (i := 6) (N := some 39) (v := ?_) (a' := ?_) #[true, true, true, true, true, true, true, true, true, true, true, false, false, false, false, false] rfl rfl (by kernel_rfl) (fun _ _ _ h => h) (Or.inl ⟨by rfl, ?_⟩) hHeld ?_ ?_
          rotate_left
          · rintro w' ⟨s0, s1, s2, s3⟩
            go_simp
            with_reducible rfl
          rotate_left
          · simp only [Act.put, List.setIfInBounds_toArray, List.set_cons_zero, List.set_cons_succ, i64_w, i32_w]
            rfl
          refine take_ (i := 11) (N := some 44) (v := ?_) (a' := ?_) #[true, true, true, true, true, true, true, true, true, true, true, true, false, false, false, false] rfl rfl (by kernel_rfl) (fun _ _ _ h => h) (Or.inl ⟨by rfl, ?_⟩) hHeld ?_ ?_
          rotate_left
          · rintro w' ⟨s0, s1, s2, s3⟩
            go_simp
            with_reducible rfl
          rotate_left
          · simp only [Act.put, List.setIfInBounds_toArray, List.set_cons_zero, List.set_cons_succ, i64_w, i32_w]
            rfl
          refine pure_ (i := 12) (N := some 45) (v := ?_) (a' := ?_) #[true, true, true, true, true, true, true, true, true, true, true, true, true, false, false, false] rfl rfl (by kernel_rfl) (fun _ _ _ h => h) (Or.inl ⟨by rfl, ?_⟩) ?_ ?_
          rotate_left
          · intro w'
            go_simp
            with_reducible rfl
          rotate_left
          · simp only [Act.put, List.setIfInBounds_toArray, List.set_cons_zero, List.set_cons_succ, i64_w, i32_w]
            rfl
          refine take_ (i := 13) (N := some 46) (v := ?_) (a' := ?_) #[true, true, true, true, true, true, true, true, true, true, true, true, true, true, false, false] rfl rfl (by kernel_rfl) (fun _ _ _ h => h) (Or.inl ⟨by rfl, ?_⟩) hHeld ?_ ?_
          rotate_left
          · rintro w' ⟨s0, s1, s2, s3⟩
            go_simp
            with_reducible rfl
          rotate_left
          · simp only [Act.put, List.setIfInBounds_toArray, List.set_cons_zero, List.set_cons_succ, i64_w, i32_w]
            rfl
          refine one_ (i := 14) (N := some 47) #[true, true, true, true, true, true, true, true, true, true, true, true, true, true, true, false] rfl rfl (by kernel_rfl) (by decide) (fun K hK => ?_)
          refine goes_ Try.func17 (by kernel_rfl) rfl #[.slice X x.length xd, .slice Y y.length yd] (by rfl) rfl rfl (by simp only [List.map_toArray, List.map_cons, List.map_nil]; rfl) ?_
          with_reducible refine (rmeetAny_any X xd x Y yd y wr.drew (Kd.C_below CX.out (below_drew HV'.out)) (Kd.C_below CY.out (below_drew HV'.out))).mono ?_
          rintro e w6 ⟨rfl, hb5⟩
          refine ⟨_, rfl, ?_⟩
          have B6 := Aside0.mk (below_then (below_drew HV'.out) HV'.out.size hb5)
          have B5q := Aside0.mk (below_then (below_drew (Below.refl wr.heap.size wr)) (Nat.le_refl _) hb5)
          rw [decide_eq_false HNE.out]
          clear hb5
          refine hK.out _ _ ⟨pw_cell_below B5q.out q0, pw_cell_below B5q.out r0, pw_cell_below B5q.out x0, pw_cell_below B5q.out y0⟩ (fun hHeld => ?_)
          clear hK K
          refine norm_ (a' := ?_) ?_ ?_
          rotate_left
          · show Act.put _ (some 47) _ = _
            simp only [Act.put, List.setIfInBounds_toArray, List.set_cons_zero, List.set_cons_succ, i64_w, i32_w]
            rfl
          refine pure_ (i := 15) (N := some 7) (v := ?_) (a' := ?_) #[true, true, true, true, true, true, true, true, true, true, true, true, true, true, true, true] rfl rfl (by kernel_rfl) (fun _ _ _ h => h) (Or.inl ⟨by rfl, ?_⟩) ?_ ?_
          rotate_left
          · intro w'
            go_simp
            with_reducible rfl
          rotate_left
          · simp only [Act.put, List.setIfInBounds_toArray, List.set_cons_zero, List.set_cons_succ, i64_w, i32_w]
            rfl
          refine done_ (by kernel_rfl) ?_
          clear hHeld q0 r0 x0 y0
          go_wp2_with fail
          go_roundg (k - (m + 1))
          case measure => have := HGN2.out; omega
          case rel => exact ⟨m + 1, by go_num, ⟨by have := HGN2.out; omega⟩, B6⟩
        · have p3 : ¬ (m : Int) < k := by omega
          go_wp2_with fail
          go_roundg (os.length - (k + 1))
          case measure => have := HGN.out; omega
          case rel => exact ⟨k + 1, by go_num, ⟨by have := HGN.out; omega⟩, hV⟩
    · have p1 : ¬ (k : Int) < os.length := by omega
      go_wp2_with fail
      go_ret
      exact ⟨rfl, hW.out⟩
end Go.Proofs.Ytajblhainchplaa
