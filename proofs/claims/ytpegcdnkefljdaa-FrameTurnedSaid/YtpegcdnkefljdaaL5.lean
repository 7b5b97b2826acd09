/- The walk of FrameTurned. -/
import Derived.Test.YtpegcdnkefljdaaC2
set_option linter.unusedVariables false
set_option linter.unusedSimpArgs false
namespace Go.Proofs.Ytpegcdnkefljdaa
open Go.RowKit Go.Proofs.YtpegcdnkefljdaaW.PrintWords
theorem set_getD (l : List UInt8) (j : Nat) : (l.set j (l.getD j 0)) = l := by
  apply List.ext_getElem?
  intro i
  by_cases h : j = i
  · subst h
    by_cases hl : j < l.length
    · rw [List.getElem?_set_self hl]
      simp [List.getD, List.getElem?_eq_getElem hl]
    · rw [List.getElem?_eq_none (by simp; omega), List.getElem?_eq_none (by omega)]
  · rw [List.getElem?_set_ne h]
theorem byte_getD (s : ByteArray) (j : Nat) (h : j < s.size) : s[j] = s.data.toList.getD j 0 := by
  have hl : j < s.data.toList.length := by rw [ba_len]; exact h
  rw [List.getD, List.getElem?_eq_getElem hl]
  rfl
set_option maxRecDepth 100000 in
set_option maxHeartbeats 4000000 in
theorem turned_law (d : ByteArray) (at_ turn : Int) (w : World) (hd0 : d.size ≤ 140737488351232) (wf1 : (Lit.int .i64 at_).wf = true) (wf2 : (Lit.int .i64 turn).wf = true) :
    Calls Try.prog 6 #[.string d, .int .i64 at_, .int .i64 turn] w fun e w' => e = .returned (.bool true) ∧ Below w.heap.size w w' := by
  clear wf1 wf2
  by_cases hb : 2147483647 < d.size
  · go_enter Try.func6, Try.ntmps6
    go_wp2_with fail
    go_ret
    exact ⟨rfl, Below.refl _ _⟩
  · by_cases h4 : 4096 < d.size
    · go_enter Try.func6, Try.ntmps6
      go_wp2_with fail
      refine (awake_any _).mono ?_
      rintro e1 w1 ⟨rfl, hb1⟩
      go_wp2_with fail
      refine (wrap_long d _ (by omega) h4).mono ?_
      rintro e2 w2 ⟨rfl, hb2⟩
      have hb12 := below_then hb1 hb1.size hb2
      clear hb1 hb2
      go_wp2_with fail
      go_ret
      exact ⟨rfl, hb12⟩
    · go_enter Try.func6, Try.ntmps6
      go_wp2_with fail
      refine (awake_any _).mono ?_
      rintro e1 w1 ⟨rfl, hb1⟩
      go_wp2_with fail
      refine (wrap_any d _ (by omega)).mono ?_
      rintro e2 w2 ⟨rfl, hb2⟩
      have hb12 := below_then hb1 hb1.size hb2
      clear hb1 hb2
      obtain ⟨s, hs⟩ : ∃ s, s = wrapB d := ⟨_, rfl⟩
      have hsz : s.size = 6 + d.size := by rw [hs, wrapB_size]
      rw [← hs]
      have HS := Lib.hid hs
      have h6 : 6 ≤ s.size := by omega
      have h7 : s.size ≤ 4102 := by omega
      have HSZ := Lib.hid hsz
      clear hs hsz
      obtain ⟨q, hq⟩ : ∃ q, Int.tmod at_ ((s.size : Int) - 2) = q := ⟨_, rfl⟩
      have hq0 : -((s.size : Int) - 2) < q := by rw [← hq]; exact Int.lt_tmod_of_pos _ (by omega)
      have hq1 : q < (s.size : Int) - 2 := by rw [← hq]; exact Int.tmod_lt_of_pos _ (by omega)
      have hz0 : (((s.size : Int) - 2) == 0) = false := by rw [beq_eq_false_iff_ne]; omega
      have kb0 := print_bytes (P := Try.prog) 9 36 5 Try.underlying9 Try.underlying36 Try.underlying5 s w2
      obtain ⟨cp, hcp⟩ : ∃ cp, cp = grownCap w2 s.size 0 5 := ⟨_, rfl⟩
      obtain ⟨g, hg⟩ : ∃ g, g = w2.heap.size := ⟨_, rfl⟩
      obtain ⟨W1, hW1⟩ : ∃ W1, W1 = Lib.bytesWorld w2 5 s := ⟨_, rfl⟩
      have hblk := Lib.bytesWorld_at_new w2 5 s
      have hcells : ∀ j, j < s.size → W1.cell? ⟨g, j, none⟩ = some (.int .u8 (s.data.toList.getD j 0).toNat) := fun j hj => by rw [hW1, hg]; exact Lib.bytesWorld_cell w2 5 s j hj
      have hfree : ∀ j, j < s.size → W1.frozen? ⟨g, j, none⟩ = false := fun j hj => by
        rw [← hW1, ← hg] at hblk
        have hl : s.size ≤ (Lib.bytesCells w2 5 s).size := by simp [Lib.bytesCells]
        simp only [World.frozen?, hblk]
        simp
        omega
      have hb3 : Below w.heap.size w W1 := by rw [hW1]; exact bytes_below hb12 hb12.size 5 s
      have hgw : w.heap.size ≤ g := by rw [hg]; exact hb12.size
      have hgs : g < W1.heap.size := by rw [hW1, Lib.bytesWorld_size]; omega
      rw [← hcp, ← hg, ← hW1] at kb0
      clear hblk hcp hg hW1 hb12
      have HCELLS := Lib.hid hcells
      have HFREE := Lib.hid hfree
      clear hcells hfree
      have main : ∃ j : Nat, 2 ≤ j ∧ j < s.size ∧ (q < 0 → q = j - s.size) ∧ (¬ q < 0 → q = j - 2) := by
        by_cases h : q < 0
        · exact ⟨(q + s.size).toNat, by omega, by omega, fun _ => by omega, fun h' => absurd h h'⟩
        · exact ⟨(q + 2).toNat, by omega, by omega, fun h' => absurd h' h, fun _ => by omega⟩
      obtain ⟨j, jlo, jhi, hqa, hqb⟩ := main
      have hc1 := HCELLS.out j jhi
      have hf1 := HFREE.out j jhi
      obtain ⟨tv, htv⟩ : ∃ tv, turn % 256 = tv := ⟨_, rfl⟩
      have htv0 : 0 ≤ tv := by omega
      have htv1 : tv ≤ 255 := by omega
      obtain ⟨u, hu⟩ : ∃ u : UInt8, u = UInt8.ofNat tv.toNat := ⟨_, rfl⟩
      have hun : (u.toNat : Int) = tv := by rw [hu]; simp; omega
      obtain ⟨s', hs'⟩ : ∃ s' : ByteArray, s' = ⟨(s.data.toList.set j u).toArray⟩ := ⟨_, rfl⟩
      have hs'z : s'.size = s.size := by rw [hs']; show (s.data.toList.set j u).toArray.size = _; simp
      have hcv : (convert 36 9 (.slice (some ⟨g, 0, none⟩) s.size cp)).run Try.prog (W1.setCell ⟨g, j, none⟩ (.int .u8 tv)) = .ok (.string s') (W1.setCell ⟨g, j, none⟩ (.int .u8 tv)) := by
        have h1 := run_convert_bytes_arg (P := Try.prog) (W1.setCell ⟨g, j, none⟩ (.int .u8 tv)) 36 5 Try.underlying36 Try.underlying5 g 0 s.size cp ((bytesOf s).set j tv) (by rw [List.length_set, bytesOf_length]) (fun i hi => ?_) 9 Try.underlying9
        · rw [h1]
          congr 2
          rw [hs']
          apply ba_ext
          rw [← hun]
          simp [strOfNums, bytesOf, List.map_set, Function.comp_def]
        · rw [Nat.zero_add]
          by_cases hij : i = j
          · subst hij
            rw [World.cell?_setCell_same _ _ _ hc1]
            simp [List.getD, bytesOf_length, hi]
          · rw [World.cell?_setCell_other _ _ _ _ (fun e => hij (Addr.mk.inj e).2.1.symm), HCELLS.out i hi]
            have h2 : i < (bytesOf s).length := by rw [bytesOf_length]; exact hi
            simp only [List.getD, List.getElem?_set_ne (Ne.symm hij), bytesOf, List.getElem?_map]
            have h3 : i < s.data.toList.length := by rw [ba_len]; exact hi
            rw [List.getElem?_eq_getElem h3]
            rfl
      have hc2 := World.cell?_setCell_same W1 _ (.int .u8 tv) hc1
      have hb4 : Below w.heap.size w (W1.setCell ⟨g, j, none⟩ (.int .u8 tv)) := hb3.setCell hgw _
      obtain ⟨W2, hW2⟩ : ∃ W2, W2 = W1.setCell ⟨g, j, none⟩ (.int .u8 tv) := ⟨_, rfl⟩
      have HB4 := Aside0.mk hb4
      have HU := Lib.hid hun
      have HS' := Lib.hid hs'
      have HS'Z := Lib.hid hs'z
      clear hb3 hb4 hun hs' hs'z hu hW2 W2
      by_cases hqn : q < 0
      · have hqe := hqa hqn
        clear hqa hqb
        subst hqe
        have j0 : (0 : Int) ≤ j := by omega
        have j1 : (j : Int) < s.size := by omega
        go_wp2_with fail
        refine (read_any s' 0 _ (by rw [HS'Z.out]; omega)).mono ?_
        rintro e5 w5 ⟨rfl, hb5⟩
        have hc5 := pw_cell_below hb5 hc2
        have HB5 := Aside0.mk (below_then HB4.out HB4.out.size hb5)
        clear hb5 hc2 kb0 hcv hc1 hf1
        have hx : ∀ h : j < s.size, ((s[j]'h).toNat : Int) = ((s.data.toList.getD j 0).toNat : Int) := fun h => by rw [byte_getD s j h]
        obtain ⟨y, hy⟩ : ∃ y, y = s.data.toList.getD j 0 := ⟨_, rfl⟩
        obtain ⟨yn, hyn⟩ : ∃ yn : Int, (y.toNat : Int) = yn := ⟨_, rfl⟩
        rw [← hy, hyn] at hx
        have HY := Lib.hid hy
        have HYN := Lib.hid hyn
        clear hy hyn
        have j3 : IntKind.i64.wrap ((j : Int) - 2 + 2) = j := by rw [IntWalk.i64_in _ (by omega)]; omega
        by_cases hE : tv = yn
        · have hE2 : (tv == yn) = true := by rw [beq_iff_eq]; exact hE
          have hss : s' = s := by
            rw [HS'.out]
            apply ba_ext
            have : u = s.data.toList.getD j 0 := by
              rw [← HY.out]
              refine UInt8.toNat_inj.1 ?_
              have h1 := HU.out
              have h2 := HYN.out
              omega
            rw [this]
            exact set_getD s.data.toList j
          have hrv : readV s' 0 = .tuple #[.string d, .int .i64 s.size, .int .i64 0] := by
            rw [hss]
            have hw := whole_wrap d ⟨#[]⟩ (by omega)
            have hz := szN_wrap d ⟨#[]⟩ (by omega)
            have hp := wrap_parts d ⟨#[]⟩
            rw [append_empty', ← HS.out] at hw hz hp
            have := readV_yes (Nat.zero_le _) hw
            rw [hz, hp.2.2] at this
            refine this.trans ?_
            rw [HSZ.out, Nat.zero_add]
          rw [hrv]
          clear hss hrv hE
          go_wp2_with fail
          go_quiet (fail)
          go_wp2_with fail
          go_ret
          exact ⟨rfl, pw_below_drewN HB5.out _⟩
        · have hE2 : (tv == yn) = false := by rw [beq_eq_false_iff_ne]; exact hE
          have hrv : readV s' 0 = .tuple #[.string ⟨#[]⟩, .int .i64 0, .int .i64 50] := by
            refine readV_no (a := 0) (Nat.zero_le _) ?_
            rw [HS'.out, HS.out]
            refine turned_none d (by omega) j u jlo (by rw [← HS.out]; exact jhi) (fun h => hE ?_)
            rw [← HS.out, ← HY.out] at h
            rw [← HYN.out, h, HU.out]
          rw [hrv]
          clear hrv hE
          go_wp2_with fail
          go_quiet (fail)
          go_wp2_with fail
          go_ret
          exact ⟨rfl, pw_below_drewN HB5.out _⟩
      · have hqe := hqb hqn
        clear hqa hqb
        subst hqe
        have j0 : (0 : Int) ≤ j := by omega
        have j1 : (j : Int) < s.size := by omega
        go_wp2_with fail
        refine (read_any s' 0 _ (by rw [HS'Z.out]; omega)).mono ?_
        rintro e5 w5 ⟨rfl, hb5⟩
        have hc5 := pw_cell_below hb5 hc2
        have HB5 := Aside0.mk (below_then HB4.out HB4.out.size hb5)
        clear hb5 hc2 kb0 hcv hc1 hf1
        have hx : ∀ h : j < s.size, ((s[j]'h).toNat : Int) = ((s.data.toList.getD j 0).toNat : Int) := fun h => by rw [byte_getD s j h]
        obtain ⟨y, hy⟩ : ∃ y, y = s.data.toList.getD j 0 := ⟨_, rfl⟩
        obtain ⟨yn, hyn⟩ : ∃ yn : Int, (y.toNat : Int) = yn := ⟨_, rfl⟩
        rw [← hy, hyn] at hx
        have HY := Lib.hid hy
        have HYN := Lib.hid hyn
        clear hy hyn
        have j3 : IntKind.i64.wrap ((j : Int) - 2 + 2) = j := by rw [IntWalk.i64_in _ (by omega)]; omega
        by_cases hE : tv = yn
        · have hE2 : (tv == yn) = true := by rw [beq_iff_eq]; exact hE
          have hss : s' = s := by
            rw [HS'.out]
            apply ba_ext
            have : u = s.data.toList.getD j 0 := by
              rw [← HY.out]
              refine UInt8.toNat_inj.1 ?_
              have h1 := HU.out
              have h2 := HYN.out
              omega
            rw [this]
            exact set_getD s.data.toList j
          have hrv : readV s' 0 = .tuple #[.string d, .int .i64 s.size, .int .i64 0] := by
            rw [hss]
            have hw := whole_wrap d ⟨#[]⟩ (by omega)
            have hz := szN_wrap d ⟨#[]⟩ (by omega)
            have hp := wrap_parts d ⟨#[]⟩
            rw [append_empty', ← HS.out] at hw hz hp
            have := readV_yes (Nat.zero_le _) hw
            rw [hz, hp.2.2] at this
            refine this.trans ?_
            rw [HSZ.out, Nat.zero_add]
          rw [hrv]
          clear hss hrv hE
          go_wp2_with fail
          go_quiet (fail)
          go_wp2_with fail
          go_ret
          exact ⟨rfl, pw_below_drewN HB5.out _⟩
        · have hE2 : (tv == yn) = false := by rw [beq_eq_false_iff_ne]; exact hE
          have hrv : readV s' 0 = .tuple #[.string ⟨#[]⟩, .int .i64 0, .int .i64 50] := by
            refine readV_no (a := 0) (Nat.zero_le _) ?_
            rw [HS'.out, HS.out]
            refine turned_none d (by omega) j u jlo (by rw [← HS.out]; exact jhi) (fun h => hE ?_)
            rw [← HS.out, ← HY.out] at h
            rw [← HYN.out, h, HU.out]
          rw [hrv]
          clear hrv hE
          go_wp2_with fail
          go_quiet (fail)
          go_wp2_with fail
          go_ret
          exact ⟨rfl, pw_below_drewN HB5.out _⟩
end Go.Proofs.Ytpegcdnkefljdaa
